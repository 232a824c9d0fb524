/- The law QuorumMeets. -/
import Derived.Test.YtpnpnjfflblkpaaQoH
namespace Go.Proofs.Ytpnpnjfflblkpaa
open Go.RowKit Go.Maps Go.Sort Go.Shelf

set_option maxRecDepth 100000 in
set_option maxHeartbeats 16000000 in
theorem meets_law (q0 q1 q2 : Int) (p0 : Pt) (v0 v1 : Value) (A0 A1 : List Int) (w : World) (h0 : rdRow w 1 v0 A0.length (encI A0)) (h1 : rdRow w 1 v1 A1.length (encI A1)) (_hi0 : ∀ x ∈ A0, I64 x) (_hi1 : ∀ x ∈ A1, I64 x) :
    Calls Try.prog 3 #[.agg #[.int .i64 q0, .int .i64 q1, .int .i64 q2], ptV p0, .agg #[v0, v1]] w fun e w' => e = .returned (.bool true) ∧ Gr w w' := by
  obtain ⟨a0, c0, rfl, hc0⟩ : ∃ a c, v0 = .slice a A0.length c ∧ A0.length ≤ c := by obtain ⟨_, a, c, e, h, _⟩ := h0; exact ⟨a, c, e, h⟩
  obtain ⟨a1, c1, rfl, hc1⟩ : ∃ a c, v1 = .slice a A1.length c ∧ A1.length ≤ c := by obtain ⟨_, a, c, e, h, _⟩ := h1; exact ⟨a, c, e, h⟩
  have H0 := Lib.hid h0; have H1 := Lib.hid h1
  clear h0 h1 hc0 hc1 _hi0 _hi1
  go_enter Try.func3, Try.ntmps3
  go_wp2_with fail
  obtain ⟨wa, ea, ga, ba, sa⟩ := al_out w (.cells #[.int .i64 q0, .int .i64 q1, .int .i64 q2] 22)
  rw [ea]
  obtain ⟨wb, eb, gb, bb, sb⟩ := al_out wa (.cells #[.string p0.s, .int .i64 p0.t, .int .i64 p0.v, .int .i64 p0.c, .int .i64 p0.st, .int .i64 p0.q] 26)
  rw [eb]
  obtain ⟨wc, ec, gc, bc, sc⟩ := al_out wb (.cells #[.slice a0 A0.length c0, .slice a1 A1.length c1] 28)
  rw [ec]
  obtain ⟨QB, eQ⟩ : ∃ A, w.heap.size = A := ⟨_, rfl⟩
  obtain ⟨PB, eP⟩ : ∃ A, wa.heap.size = A := ⟨_, rfl⟩
  obtain ⟨OB, eO⟩ : ∃ A, wb.heap.size = A := ⟨_, rfl⟩
  rw [eQ] at ba ⊢
  rw [eP] at bb
  rw [eO] at bc
  rw [show QB + 1 + 1 = OB by omega, show QB + 1 = PB by omega]
  have BQ := Lib.hid ((gb.tr gc).blk ba)
  have BP := Lib.hid (gc.blk bb)
  have BO := Lib.hid bc
  have G0 := Lib.hid ((ga.tr gb).tr gc)
  have SO := Lib.hid (show OB < wc.heap.size by omega)
  have SP := Lib.hid (show PB < wc.heap.size ∧ w.heap.size ≤ PB by omega)
  have NE := Lib.hid (show PB ≠ OB by omega)
  clear ea ga ba sa eb gb bb sb ec gc bc sc eQ eP eO
  refine (awake_calls _).mono ?_
  rintro e w1 ⟨rfl, hg1⟩
  have BQ1 := Lib.hid (hg1.blk BQ.out)
  have BP1 := Lib.hid (hg1.blk BP.out)
  have BO1 := Lib.hid (hg1.blk BO.out)
  have G1 := Lib.hid (G0.out.tr hg1)
  have SO1 := Lib.hid (show OB < w1.heap.size ∧ PB < w1.heap.size ∧ w.heap.size ≤ PB by have := hg1.size; have := SO.out; have := SP.out; omega)
  have cq0 := (cell_of_row _ _ 0 _ _ _ BQ1.out).trans (rfl : _ = some (Value.int .i64 q0))
  have cq1 := (cell_of_row _ _ 1 _ _ _ BQ1.out).trans (rfl : _ = some (Value.int .i64 q1))
  have cq2 := (cell_of_row _ _ 2 _ _ _ BQ1.out).trans (rfl : _ = some (Value.int .i64 q2))
  obtain ⟨n0, hn0, en0⟩ := and7_ok q0
  obtain ⟨k0, hk0, ek0⟩ := and7_ok q1
  obtain ⟨r0, hr0, er0⟩ := and7_ok q2
  clear hg1 BQ BP BO G0 SO SP
  go_upto_region 5 with fail
  obtain ⟨n, en⟩ : ∃ n : Nat, n0 + 1 = n := ⟨_, rfl⟩
  obtain ⟨k, ek⟩ : ∃ n : Nat, k0 + 1 = n := ⟨_, rfl⟩
  obtain ⟨r, er⟩ : ∃ n : Nat, r0 + 1 = n := ⟨_, rfl⟩
  rw [show (1 : Int) + n0 = n by omega, show (1 : Int) + k0 = k by omega, show (1 : Int) + r0 = r by omega]
  have hn1 : 1 ≤ n ∧ n ≤ 8 := by omega
  have hk1 : 1 ≤ k ∧ k ≤ 8 := by omega
  have hr1 : 1 ≤ r ∧ r ≤ 8 := by omega
  clear cq0 cq1 cq2 en0 ek0 er0 hn0 hk0 hr0 en ek er BQ1
  go_wp2_with fail
  refine (meet_calls n k r hn1 hk1 hr1 _).mono ?_
  rintro e w2 ⟨rfl, hg2⟩
  have BP2 := Lib.hid (hg2.blk BP1.out)
  have BO2 := Lib.hid (hg2.blk BO1.out)
  have G2 := Lib.hid (G1.out.tr hg2)
  have SO2 := Lib.hid (show OB < w2.heap.size ∧ PB < w2.heap.size ∧ w.heap.size ≤ PB by have := hg2.size; have := SO1.out; omega)
  have co0 := (cell_of_row _ _ 0 _ _ _ BO2.out).trans (rfl : _ = some (Value.slice a0 A0.length c0))
  have co1 := (cell_of_row _ _ 1 _ _ _ BO2.out).trans (rfl : _ = some (Value.slice a1 A1.length c1))
  have cp0 := (cell_of_row _ _ 0 _ _ _ BP2.out).trans (rfl : _ = some (Value.string p0.s))
  have fp0 := frozen_of_row _ PB 0 _ _ BP2.out
  clear hg2 BP1 BO1 G1 SO1
  have hlen : (30 : Int) < A0.length ∨ (¬ (30 : Int) < A0.length ∧ (30 : Int) < A1.length) ∨ (¬ (30 : Int) < A0.length ∧ ¬ (30 : Int) < A1.length) := by omega
  rcases hlen with hl0 | ⟨hl0, hl1⟩ | ⟨hl0, hl1⟩
  · generalize meetB n k r = t at *
    go_wp2_with fail
    go_ret
    exact ⟨rfl, G2.out⟩
  · generalize meetB n k r = t at *
    go_wp2_with fail
    go_ret
    exact ⟨rfl, G2.out⟩
  · have HL := Lib.hid (show A0.length ≤ 30 ∧ A1.length ≤ 30 by omega)
    have hcs : (¬ (k : Int) ≤ n ∧ meetB n k r = false) ∨ ((k : Int) ≤ n ∧ ¬ (r : Int) ≤ n ∧ meetB n k r = false) ∨ ((k : Int) ≤ n ∧ (r : Int) ≤ n ∧ ¬ (n : Int) < k + r ∧ meetB n k r = false) ∨ ((k : Int) ≤ n ∧ (r : Int) ≤ n ∧ (n : Int) < k + r ∧ meetB n k r = true) := by
      unfold meetB
      by_cases c1 : k ≤ n
      · by_cases c2 : r ≤ n
        · by_cases c3 : n < k + r
          · exact .inr (.inr (.inr ⟨by omega, by omega, by omega, decide_eq_true ⟨c1, c2, c3⟩⟩))
          · exact .inr (.inr (.inl ⟨by omega, by omega, by omega, decide_eq_false fun z => c3 z.2.2⟩))
        · exact .inr (.inl ⟨by omega, by omega, decide_eq_false fun z => c2 z.2.1⟩)
      · exact .inl ⟨by omega, decide_eq_false fun z => c1 z.1⟩
    have hmt := Lib.hid (show meetB n k r = true → k ≤ n ∧ r ≤ n ∧ n < k + r from fun e => of_decide_eq_true e)
    obtain ⟨t, et⟩ : ∃ t, meetB n k r = t := ⟨_, rfl⟩
    rw [et] at hcs hmt ⊢
    clear et
    have Hcs := Lib.hid hcs
    clear hcs
    by_cases h60 : 60 < p0.s.size
    · have h60' : (60 : Int) < p0.s.size := by omega
      rcases Hcs.out with ⟨b1, rfl⟩ | ⟨b1, b2, rfl⟩ | ⟨b1, b2, b3, rfl⟩ | ⟨b1, b2, b3, rfl⟩
      · go_wp2_with fail
        go_ret
        exact ⟨rfl, Gr.sc G2.out SO2.out.2.2 _⟩
      · go_wp2_with fail
        go_ret
        exact ⟨rfl, Gr.sc G2.out SO2.out.2.2 _⟩
      · go_wp2_with fail
        go_ret
        exact ⟨rfl, Gr.sc G2.out SO2.out.2.2 _⟩
      · obtain ⟨x, ex⟩ : ∃ x, smallP p0 = x := ⟨_, rfl⟩
        have hs : smallP p0 = { p0 with s := p0.s.extract 0 60 } := if_pos h60
        have hb3 := heap_setCell_same w2 PB 0 _ _ (.string (p0.s.extract 0 60)) BP2.out
        have BP3 := Lib.hid (show (w2.setCell ⟨PB, 0, none⟩ (.string (p0.s.extract 0 60))).heap[PB]? = some (.cells (ptC x).toArray 26 (0, 0)) from by rw [hb3, ← ex, hs]; rfl)
        have BO3 := Lib.hid (show (w2.setCell ⟨PB, 0, none⟩ (.string (p0.s.extract 0 60))).heap[OB]? = some (.cells #[.slice a0 A0.length c0, .slice a1 A1.length c1] 28 (0, 0)) from by rw [heap_setCell_other w2 _ OB _ (fun e => by have := NE.out; exact this e.symm)]; exact BO2.out)
        have G3 := Lib.hid (Gr.sc G2.out (p := ⟨PB, 0, none⟩) SO2.out.2.2 (.string (p0.s.extract 0 60)))
        have SO3 := Lib.hid (show OB < (w2.setCell ⟨PB, 0, none⟩ (.string (p0.s.extract 0 60))).heap.size ∧ PB < (w2.setCell ⟨PB, 0, none⟩ (.string (p0.s.extract 0 60))).heap.size from by have := SO2.out; simp [World.setCell]; omega)
        clear hs ex hb3 h60 BP2 BO2
        go_upto_region 12 with fail
        generalize w2.setCell ⟨PB, 0, none⟩ (.string (p0.s.extract 0 60)) = w3 at *
        clear co0 co1 cp0 fp0 h60' hl0 hl1 G2 SO2
        have hm3 := hmt.out (by first | rfl | trivial)
        clear hmt Hcs b1 b2 b3
        go_wp2_with (refine wpList_load_rowg (by rfl) 26 (.tmp 4) rfl PB rfl _ (ptC x).toArray (0, 0) _ BP3.out Try.underlying26 rfl info_pt ?_)
        refine (rcheckp_calls x _).mono ?_
        rintro e w4 ⟨rfl, hg4⟩
        replace BP3 := Lib.hid (hg4.blk BP3.out)
        replace BO3 := Lib.hid (hg4.blk BO3.out)
        replace G3 := Lib.hid (G3.out.tr hg4)
        replace SO3 := Lib.hid (show OB < w4.heap.size ∧ PB < w4.heap.size from ⟨Nat.lt_of_lt_of_le SO3.out.1 hg4.size, Nat.lt_of_lt_of_le SO3.out.2 hg4.size⟩)
        clear hg4
        by_cases hok : PtOk x
        · rw [decide_eq_true hok, show errOf true = 0 from rfl]
          have hst : 1 ≤ x.c ∧ x.c ≤ 1099511627776 := ⟨hok.2.2.1, hok.2.2.2.1⟩
          clear hok
          obtain ⟨R, eR⟩ : ∃ R, w4.heap.size = R := ⟨_, rfl⟩
          have ER := Lib.hid eR
          clear eR
          go_wp2_with fail
          go_loopw [12, 13] (fun lv iv wr => ∃ i : Nat, i ≤ n ∧ iv = .int .i64 i ∧ Hid (wr.ownsRow R 3 1 lv (upA i).length (encI (upA i))) ∧ Hid (Gr w4 wr)) (fun _ iv _ => n - (intOf iv).toNat)
          case atStart => exact ⟨0, Nat.zero_le _, rfl, Lib.hid (World.ownsRow_nil _ _ _ _), Lib.hid Gr.rfl'⟩
          case round =>
            obtain ⟨i, hi, rfl, HO, HG⟩ := hrel
            have Hup := Lib.hid (up_succ i)
            have Hul := Lib.hid (up_len i)
            have HOb := HO
            rw [up_len] at HO
            by_cases hlt : i < n
            · have hlt' : (i : Int) < n := by omega
              obtain ⟨la, lc, hlv⟩ := own_slice HO.out
              subst hlv
              have HR4 := Lib.hid (show R ≤ wr.heap.size by rw [← ER.out]; exact HG.out.size)
              obtain ⟨i0, hinf, hz0, hz1, hz2⟩ := info_parts infoInt
              go_wp2_with (at_builtin; refine wpList_append_own _ rfl _ _ 27 rfl R 3 i0 _ 1 8 Try.underlying27 hinf hz0 hz1 hz2 rfl (by decide) _ _ _ rfl (HO.out.alloc _) ⟨wr.heap.size, 0, none⟩ 1 1 [.int .i64 (i : Int)] rfl rfl (World.news_of_block (heap_alloc_new wr _)) (by intro u hu; simp only [List.mem_cons, List.not_mem_nil, or_false] at hu; subst hu; rfl) (by unfold maxLen; omega) (by omega) (by have := HR4.out; simp; omega) ?_; intro v3 w5 hown5 hgrow5 _)
              have HO5 := Lib.hid (own_cast (n' := (upA (i + 1)).length) (xs' := encI (upA (i + 1))) hown5 (by rw [up_len]) (by rw [← Hup.out, encI_snoc]))
              have HG5 := Lib.hid (gr_gb (HG.out.tr (Gr.al Gr.rfl' _)) hgrow5 (fun j hj => by rw [ER.out]; exact (HO.out.lt j hj).1))
              clear hown5 hgrow5 HR4
              go_roundw
              case rel => exact ⟨i + 1, by omega, by go_num, HO5, HG5⟩
              case measure => simp [intOf]; omega
            · obtain rfl : n = i := by omega
              clear HO Hup Hul hlt hi
              replace BP3 := Lib.hid (HG.out.blk BP3.out)
              replace BO3 := Lib.hid (HG.out.blk BO3.out)
              replace G3 := Lib.hid (G3.out.tr HG.out)
              replace SO3 := Lib.hid (show OB < wr.heap.size ∧ PB < wr.heap.size from ⟨Nat.lt_of_lt_of_le SO3.out.1 HG.out.size, Nat.lt_of_lt_of_le SO3.out.2 HG.out.size⟩)
              clear HG ER
              go_wp2_with fail
              refine (newwrite_calls k _ (upA n) _ (rdRow_of_own HOb.out) (by rw [up_len]; omega)).mono ?_
              rintro e w6 ⟨p, nv, b, rfl, ha, _, hp, hb, hg⟩
              rw [nodes_up hn1.2, mx_one hk1.1] at ha
              have R6 := Lib.hid ((rdRow_of_own HOb.out).gr hg)
              have HW6 := Lib.hid ha
              have HW6b := Lib.hid (show w.heap.size ≤ b ∧ b < w6.heap.size from ⟨Nat.le_trans G3.out.size hb, ha.map.lt b rfl⟩)
              replace BP3 := Lib.hid (hg.blk BP3.out)
              replace BO3 := Lib.hid (hg.blk BO3.out)
              replace G3 := Lib.hid (G3.out.tr hg)
              replace SO3 := Lib.hid (show OB < w6.heap.size ∧ PB < w6.heap.size from ⟨Nat.lt_of_lt_of_le SO3.out.1 hg.size, Nat.lt_of_lt_of_le SO3.out.2 hg.size⟩)
              clear ha hp hb hg HOb
              go_wp2_with fail
              refine (newread_calls r _ (upA n) _ R6.out (by rw [up_len]; omega)).mono ?_
              rintro e w7 ⟨p2, nv2, b2, g2, rfl, ha, hp, hb, hgg, hg⟩
              rw [nodes_up hn1.2, mx_one hr1.1] at ha
              have HW7 := Lib.hid (HW6.out.gr hg)
              have HR7 := Lib.hid ha
              have HN7 := Lib.hid (show b ≠ b2 ∧ b ≠ g2 ∧ w.heap.size ≤ b ∧ w.heap.size ≤ b2 ∧ w.heap.size ≤ g2 from by have := HW6b.out; have := G3.out.size; omega)
              have HS7 := Lib.hid (show b2 < w7.heap.size ∧ g2 < w7.heap.size ∧ b < w7.heap.size ∧ p < w7.heap.size ∧ p2 < w7.heap.size from ⟨ha.wr.map.lt b2 rfl, ha.gt.got.lt g2 rfl, HW7.out.map.lt b rfl, World.block_lt_of_cell? _ _ HW7.out.c0, World.block_lt_of_cell? _ _ ha.wr.c0⟩)
              replace BP3 := Lib.hid (hg.blk BP3.out)
              replace BO3 := Lib.hid (hg.blk BO3.out)
              replace G3 := Lib.hid (G3.out.tr hg)
              replace SO3 := Lib.hid (show OB < w7.heap.size ∧ PB < w7.heap.size from ⟨Nat.lt_of_lt_of_le SO3.out.1 hg.size, Nat.lt_of_lt_of_le SO3.out.2 hg.size⟩)
              clear ha hp hb hgg hg R6 HW6 HW6b
              go_upto_region 24 with (refine wpList_load_rowg (by rfl) 26 (.tmp 4) rfl PB rfl _ (ptC x).toArray (0, 0) _ BP3.out Try.underlying26 rfl info_pt ?_)
              obtain ⟨w8, e8, g8, b8, s8⟩ := al_out w7 (.cells #[.string x.s, .int .i64 x.t, .int .i64 x.v, .int .i64 x.c, .int .i64 x.st, .int .i64 x.q] 26)
              rw [e8]
              obtain ⟨EB, eE⟩ : ∃ A, w7.heap.size = A := ⟨_, rfl⟩
              rw [eE] at b8 ⊢
              have cp3 := (cell_of_row _ _ 3 _ _ _ (g8.blk BP3.out)).trans (rfl : _ = some (Value.int .i64 x.c))
              have ce3 := (cell_of_row _ _ 3 _ _ _ b8).trans (rfl : _ = some (Value.int .i64 x.c))
              have fe3 := frozen_of_row w8 EB 3 _ _ b8
              have ce2 := (cell_of_row _ _ 2 _ _ _ b8).trans (rfl : _ = some (Value.int .i64 x.v))
              have fe2 := frozen_of_row w8 EB 2 _ _ b8
              have B8 := Lib.hid b8
              have G8 := Lib.hid g8
              have EE := Lib.hid eE
              clear e8 g8 b8 s8 eE
              go_upto_region 26 with fail
              have h1 := heap_setCell_same w8 EB 3 _ _ (.int .i64 (x.c - 1)) B8.out
              have h2 := heap_setCell_same (w8.setCell ⟨EB, 3, none⟩ (.int .i64 (x.c - 1))) EB 2 _ _ (.int .i64 0) h1
              have BE := Lib.hid (show ((w8.setCell ⟨EB, 3, none⟩ (.int .i64 (x.c - 1))).setCell ⟨EB, 2, none⟩ (.int .i64 0)).heap[EB]? = some (.cells (ptC (eldP x)).toArray 26 (0, 0)) from by rw [h2]; rfl)
              have G9 := Lib.hid (show Gr w7 ((w8.setCell ⟨EB, 3, none⟩ (.int .i64 (x.c - 1))).setCell ⟨EB, 2, none⟩ (.int .i64 0)) from Gr.sc (Gr.sc G8.out (by rw [EE.out]; exact Nat.le_refl _) _) (by rw [EE.out]; exact Nat.le_refl _) _)
              generalize (w8.setCell ⟨EB, 3, none⟩ (.int .i64 (x.c - 1))).setCell ⟨EB, 2, none⟩ (.int .i64 0) = w9 at *
              clear h1 h2 cp3 ce3 fe3 ce2 fe2 B8 G8
              go_wp2_with fail
              obtain ⟨w10, e10, g10, b10, s10⟩ := al_out w9 (.cells #[.slice none 0 0, .slice none 0 0, .slice none 0 0, .slice none 0 0, .slice none 0 0, .slice none 0 0, .slice none 0 0, .slice none 0 0] 38)
              rw [e10]
              obtain ⟨A, eA⟩ : ∃ A, w9.heap.size = A := ⟨_, rfl⟩
              rw [eA] at b10 s10 ⊢
              have HD0 := Lib.hid ((hd8_new (N := A + 1) b10 (fun m hm => by
                have : m = 0 ∨ m = 1 ∨ m = 2 ∨ m = 3 ∨ m = 4 ∨ m = 5 ∨ m = 6 ∨ m = 7 := by omega
                rcases this with rfl | rfl | rfl | rfl | rfl | rfl | rfl | rfl <;> rfl) (by omega) (by omega)).congr (stI_zero x).symm)
              have G10 := Lib.hid g10
              have HA7 := Lib.hid (show w7.heap.size ≤ A by rw [← eA]; exact G9.out.size)
              have EA := Lib.hid eA
              clear e10 g10 b10 s10 eA
              go_loopw [18] (fun iv wr => ∃ (i : Nat) (F : Nat → Value), i ≤ n ∧ iv = .int .i64 i ∧ Hid (Hd8 wr A (A + 1) (stI x i) F) ∧ Hid (Gr w9 wr)) (fun iv _ => n - (intOf iv).toNat)
              case atStart => exact ⟨0, _, Nat.zero_le _, rfl, HD0, G10⟩
              case round =>
                obtain ⟨i, F, hi, rfl, HD, HG⟩ := hrel
                clear HD0 G10
                by_cases hlt : i < n
                · have hlt' : (i : Int) < n := by omega
                  have hi8 : i < 8 := by omega
                  have HBE := Lib.hid (HG.out.blk BE.out)
                  have ce := (cell_of_row _ _ 3 _ _ _ HBE.out).trans (rfl : _ = some (Value.int .i64 (x.c - 1)))
                  by_cases hE : 1 ≤ x.c - 1
                  · have hE2 : 1 < x.c := by omega
                    have hi8i : (i : Int) < 8 := by omega
                    have ca : (wr.alloc (.cells #[.string (eldP x).s, .int .i64 (eldP x).t, .int .i64 (eldP x).v, .int .i64 (eldP x).c, .int .i64 (eldP x).st, .int .i64 (eldP x).q] 26)).cell? ⟨A, i, none⟩ = some (F i) := keepc (Gr.al Gr.rfl' _) (HD.out.arr i hi8).1
                    have fa : (wr.alloc (.cells #[.string (eldP x).s, .int .i64 (eldP x).t, .int .i64 (eldP x).v, .int .i64 (eldP x).c, .int .i64 (eldP x).st, .int .i64 (eldP x).q] 26)).frozen? ⟨A, i, none⟩ = false := keepf (Gr.al Gr.rfl' _) (HD.out.arr i hi8).1 (HD.out.arr i hi8).2
                    have HP := Lib.hid (((HD.out.gr (Gr.al (Gr.rfl' (w := wr)) (.cells (ptC (eldP x)).toArray 26))).put hi8 (own_lit wr (A + 1) (eldP x) HD.out.nw) (fun j kk hj hne hk z => by
                      have := (HD.out.own_lt hj hk).2
                      injection z with z
                      simp only at z
                      omega)).congr (stI_put hE i))
                    have HGn := Lib.hid (Gr.sc (HG.out.tr (Gr.al (Gr.rfl' (w := wr)) (.cells (ptC (eldP x)).toArray 26))) (p := ⟨A, i, none⟩) (by rw [EA.out]; exact Nat.le_refl _) (.slice (some ⟨wr.heap.size, 0, none⟩) 1 1))
                    go_wp2_with (refine wpList_load_rowg (by rfl) 26 (.tmp 16) rfl EB rfl _ (ptC (eldP x)).toArray (0, 0) _ HBE.out Try.underlying26 rfl info_pt ?_)
                    go_roundw
                    case rel => exact ⟨i + 1, _, by omega, by go_num, HP, HGn⟩
                    case measure => simp [intOf]; omega
                  · have hE2 : ¬ 1 < x.c := by omega
                    have HD2 := Lib.hid (HD.out.congr (stI_skip hE i))
                    go_wp2_with fail
                    go_roundw
                    case rel => exact ⟨i + 1, F, by omega, by go_num, HD2, HG⟩
                    case measure => simp [intOf]; omega
                · obtain rfl : n = i := by omega
                  clear hlt hi
                  have HM := Lib.hid (show MW w wr p b p2 b2 g2 k r n x [] [] [] A (A + 1) PB OB #[.slice a0 A0.length c0, .slice a1 A1.length c1] (fun j => A ≤ j) F from by
                    have hA := HA7.out
                    obtain ⟨s1, s2, s3, s4, s5⟩ := HS7.out
                    obtain ⟨t1, t2, t3, t4, t5⟩ := HN7.out
                    have hg := G9.out.tr HG.out
                    refine ⟨⟨nv, HW7.out.gr hg, by omega, by omega, fun a m c e h0 => by have := row_below (by decide) HW7.out.row a m c e h0; omega⟩, ?_, HD.out.congr (stM_nil n x), G3.out.tr hg, hg.blk BP3.out, hg.blk BO3.out, t1, t2, t3, t4, t5, Nat.le_trans G3.out.size hA, by have := SO3.out.2; omega, by have := SO3.out.1; omega, hn1.2⟩
                    rw [glO_nil]
                    exact ⟨nv2, _, HR7.out.gr hg, by omega, by omega, by omega, fun a m c e h0 => by have := row_below (by decide) HR7.out.wr.row a m c e h0; omega, fun kk a m c e h0 => by cases e⟩)
                  have HA0 := Lib.hid (AckM.zero n A0.length)
                  have GW := Lib.hid (G3.out.tr (G9.out.tr HG.out))
                  clear HD HG HW7 HR7 HN7 HS7 BP3 BO3 G3 SO3 BE G9 HA7 EA EE
                  go_wp2_with fail
                  go_loopw [19] (fun iv wr => ∃ (i : Nat) (H : List Int) (F : Nat → Value), i ≤ A0.length + n ∧ iv = .int .i64 i ∧ Hid (MW w wr p b p2 b2 g2 k r n x H H [] A (A + 1) PB OB #[.slice a0 A0.length c0, .slice a1 A1.length c1] (fun j => A ≤ j) F) ∧ Hid (AckM n H A0.length i)) (fun iv _ => A0.length + n - (intOf iv).toNat)
                  case atStart => exact ⟨0, [], F, Nat.zero_le _, rfl, HM, HA0⟩
                  case round =>
                    obtain ⟨i, H, F, hi, rfl, HQ, HA⟩ := hrel
                    clear HM HA0 GW
                    have hHl := HA.out.len_le
                    by_cases hd : k ≤ H.length
                    · have hdn : decide ((0 : Int) < k ∧ (k : Int) ≤ (H.length : Int)) = true := decide_eq_true (by omega)
                      have Hdn := Lib.hid hdn
                      clear hdn
                      go_wp2_with fail
                      refine (HQ.out.wr.done).mono ?_
                      rintro e w5 ⟨rfl, hg5⟩
                      rw [Hdn.out]
                      replace HQ := Lib.hid (HQ.out.grow hg5)
                      have HX := Lib.hid HQ.out.turn
                      have HJ0 := Lib.hid (AckM.zero n A1.length)
                      clear hg5 Hdn HQ
                      go_wp2_with fail
                      go_loopw [22] (fun iv wr => ∃ (i : Nat) (J : List Int), i ≤ A1.length + n ∧ iv = .int .i64 i ∧ Hid (MW w wr p b p2 b2 g2 k r n x H H J A (A + 1) PB OB #[.slice a0 A0.length c0, .slice a1 A1.length c1] (XF A F) F) ∧ Hid (AckM n J A1.length i)) (fun iv _ => A1.length + n - (intOf iv).toNat)
                      case atStart => exact ⟨0, [], Nat.zero_le _, rfl, HX, HJ0⟩
                      case round =>
                        obtain ⟨i, J, hi, rfl, HQ, HJ⟩ := hrel
                        clear HX HJ0
                        have hJl := HJ.out.len_le
                        by_cases hd2 : r ≤ J.length
                        · have hdn : decide ((0 : Int) < r ∧ (r : Int) ≤ (J.length : Int)) = true := decide_eq_true (by omega)
                          have Hdn := Lib.hid hdn
                          clear hdn
                          go_wp2_with fail
                          refine (HQ.out.rd.done).mono ?_
                          rintro e w5 ⟨rfl, hg5⟩
                          rw [Hdn.out]
                          replace HQ := Lib.hid (HQ.out.grow hg5)
                          clear hg5 Hdn
                          have Hall := Lib.hid (meets_all (p := x) HA.out.ok HJ.out.ok (by omega))
                          have Hrep := Lib.hid (fun (i : Nat) (hi : i < n) => meets_rep (p := x) HA.out.ok HJ.out.ok (by omega) hi)
                          have Hrl := Lib.hid (fun (i : Int) => rep_len1 (p := x) HA.out.ok HJ.out.ok (by omega) i)
                          have Hun := Lib.hid (show (upA n).length ≤ 10 by rw [up_len]; omega)
                          obtain ⟨y, ey⟩ : ∃ y, x = y := ⟨_, rfl⟩
                          have Ey := Lib.hid ey
                          have Hne := Lib.hid (show decide (y ≠ x) = false from decide_eq_false (fun z => z ey.symm))
                          have Hyx := Lib.hid (show decide (y = x) = true from decide_eq_true ey.symm)
                          clear ey
                          go_wp2_with fail
                          refine (HQ.out.rd.merged Hun.out (glM_len n x H J)).mono ?_
                          rintro e w6 ⟨v6, rfl, ho6, hg6⟩
                          rw [Hall.out] at ho6
                          obtain ⟨a6, c6, e6⟩ : ∃ a c, v6 = .slice a 1 c := own_slice ho6
                          subst e6
                          replace HQ := Lib.hid (HQ.out.grow hg6)
                          obtain ⟨bg, og, _, e1, _, hrg⟩ := rd_range ptC 6 (fun _ => rfl) (rdRow_of_own ho6) (Nat.succ_pos 0)
                          replace e1 := (Value.slice.inj e1).1
                          subst e1
                          have Hrg := Lib.hid (show w6.rangeAt bg og (ptC y) by have := hrg 0 (Nat.succ_pos 0); rw [← Ey.out]; simpa using this)
                          clear ho6 hg6 hrg
                          go_upto_region 54 with fail
                          refine region_start (S := fun w' => Gr w6 w') (by kernel_rfl) (by exact Gr.dr Gr.rfl') (fun wz hz0 hHeld => ?_)
                          simp only [List.size_toArray, List.length_cons, List.length_nil, Nat.reduceAdd]
                          refine wpAnyH_take (i := 0) (oi := ?_) (v := ?_) ?_ (by kernel_rfl) (by kernel_rfl) (by kernel_rfl) ?_ ?_ (by assumption) ?_; rotate_left 2; (focus (simp only [List.getElem?_toArray, List.getElem?_cons_zero]; rfl)); (focus (exact fun _ _ _ h => h)); first | (focus (refine Or.inl ⟨by rfl, ?_⟩; intro w hSw; (try dsimp only at hSw); (try dsimp only [Array.getD]); go_simp; (try with_reducible rfl))) | (focus (refine Or.inr ⟨by rfl, ?_⟩; rfl)) | fail "op 0"
                          try simp only [Act.put, List.setIfInBounds_toArray, List.set_cons_zero, List.set_cons_succ]
                          refine wpAnyH_take (i := 1) (oi := ?_) (v := ?_) ?_ (by kernel_rfl) (by kernel_rfl) (by kernel_rfl) ?_ ?_ (by assumption) ?_; rotate_left 2; (focus (simp only [List.getElem?_toArray, List.getElem?_cons_succ, List.getElem?_cons_zero]; rfl)); (focus (exact fun _ _ _ h => h)); first | (focus (refine Or.inl ⟨by rfl, ?_⟩; intro w hSw; (try dsimp only at hSw); skip; (try dsimp only [Array.getD]); go_simp; (try with_reducible rfl))) | (focus (refine Or.inr ⟨by rfl, ?_⟩; rfl)) | fail "op 1"
                          try simp only [Act.put, List.setIfInBounds_toArray, List.set_cons_zero, List.set_cons_succ]
                          refine wpAnyH_take (i := 2) (oi := ?_) (v := ?_) ?_ (by kernel_rfl) (by kernel_rfl) (by kernel_rfl) ?_ ?_ (by assumption) ?_; rotate_left 2; (focus (simp only [List.getElem?_toArray, List.getElem?_cons_succ, List.getElem?_cons_zero]; rfl)); (focus (exact fun _ _ _ h => h)); first | (focus (refine Or.inl ⟨by rfl, ?_⟩; intro w hSw; (try dsimp only at hSw); (try dsimp only [Array.getD]); go_simp; (try with_reducible rfl))) | (focus (refine Or.inr ⟨by rfl, ?_⟩; rfl)) | fail "op 2"
                          try simp only [Act.put, List.setIfInBounds_toArray, List.set_cons_zero, List.set_cons_succ]
                          refine wpAnyH_take (i := 3) (oi := ?_) (v := ?_) ?_ (by kernel_rfl) (by kernel_rfl) (by kernel_rfl) ?_ ?_ (by assumption) ?_; rotate_left 2; (focus (simp only [List.getElem?_toArray, List.getElem?_cons_succ, List.getElem?_cons_zero]; rfl)); (focus (exact fun _ _ _ h => h)); first | (focus (refine Or.inl ⟨by rfl, ?_⟩; intro w hSw; (try dsimp only at hSw); (try dsimp only [Array.getD]); go_simp; (try with_reducible rfl))) | (focus (refine Or.inr ⟨by rfl, ?_⟩; rfl)) | fail "op 3"
                          try simp only [Act.put, List.setIfInBounds_toArray, List.set_cons_zero, List.set_cons_succ]
                          refine wpAnyH_take (i := 4) (oi := ?_) (v := ?_) ?_ (by kernel_rfl) (by kernel_rfl) (by kernel_rfl) ?_ ?_ (by assumption) ?_; rotate_left 2; (focus (simp only [List.getElem?_toArray, List.getElem?_cons_succ, List.getElem?_cons_zero]; rfl)); (focus (exact fun _ _ _ h => h)); first | (focus (refine Or.inl ⟨by rfl, ?_⟩; intro w hSw; (try dsimp only at hSw); (try dsimp only [Array.getD]); go_simp; (try with_reducible rfl))) | (focus (refine Or.inr ⟨by rfl, ?_⟩; rfl)) | fail "op 4"
                          try simp only [Act.put, List.setIfInBounds_toArray, List.set_cons_zero, List.set_cons_succ]
                          refine wpAnyH_take (i := 5) (oi := ?_) (v := ?_) ?_ (by kernel_rfl) (by kernel_rfl) (by kernel_rfl) ?_ ?_ (by assumption) ?_; rotate_left 2; (focus (simp only [List.getElem?_toArray, List.getElem?_cons_succ, List.getElem?_cons_zero]; rfl)); (focus (exact fun _ _ _ h => h)); first | (focus (refine Or.inl ⟨by rfl, ?_⟩; intro w hSw; (try dsimp only at hSw); (try dsimp only [Array.getD]); go_simp; (try with_reducible rfl))) | (focus (refine Or.inr ⟨by rfl, ?_⟩; rfl)) | fail "op 5"
                          try simp only [Act.put, List.setIfInBounds_toArray, List.set_cons_zero, List.set_cons_succ]
                          refine wpAnyH_take (i := 6) (oi := ?_) (v := ?_) ?_ (by kernel_rfl) (by kernel_rfl) (by kernel_rfl) ?_ ?_ (by assumption) ?_; rotate_left 2; (focus (simp only [List.getElem?_toArray, List.getElem?_cons_succ, List.getElem?_cons_zero]; rfl)); (focus (exact fun _ _ _ h => h)); first | (focus (refine Or.inl ⟨by rfl, ?_⟩; intro w hSw; (try dsimp only at hSw); refine (exec_load_mid 26 (.tmp 202) (by rfl) bg og (by rfl) (ptC y) _ (rangeAt_gr hSw Hrg.out) Try.underlying26 rfl info_pt).trans ?_; with_reducible rfl)) | (focus (refine Or.inr ⟨by rfl, ?_⟩; rfl)) | fail "op 6"
                          try simp only [Act.put, List.setIfInBounds_toArray, List.set_cons_zero, List.set_cons_succ]
                          refine wpAnyH_take (i := 7) (oi := ?_) (v := ?_) ?_ (by kernel_rfl) (by kernel_rfl) (by kernel_rfl) ?_ ?_ (by assumption) ?_; rotate_left 2; (focus (simp only [List.getElem?_toArray, List.getElem?_cons_succ, List.getElem?_cons_zero]; rfl)); (focus (exact fun _ _ _ h => h)); first | (focus (refine Or.inl ⟨by rfl, ?_⟩; intro w hSw; (try dsimp only at hSw); refine (exec_load_row 26 (.tmp 4) (by rfl) PB (by rfl) _ (ptC x).toArray (0, 0) _ (hSw.blk HQ.out.bp) Try.underlying26 rfl info_pt).trans ?_; with_reducible rfl)) | (focus (refine Or.inr ⟨by rfl, ?_⟩; rfl)) | fail "op 7"
                          try simp only [Act.put, List.setIfInBounds_toArray, List.set_cons_zero, List.set_cons_succ]
                          refine wpAnyH_take (i := 8) (oi := ?_) (v := ?_) ?_ (by kernel_rfl) (by kernel_rfl) (by kernel_rfl) ?_ ?_ (by assumption) ?_; rotate_left 2; (focus (simp only [List.getElem?_toArray, List.getElem?_cons_succ, List.getElem?_cons_zero]; rfl)); (focus (exact fun _ _ _ h => h)); first | (focus (refine Or.inl ⟨by rfl, ?_⟩; intro w hSw; (try dsimp only at hSw); (try dsimp only [Array.getD]); go_simp; refine (ne_pt y x _).trans ?_; with_reducible rfl)) | (focus (refine Or.inr ⟨by rfl, ?_⟩; rfl)) | fail "op 8"
                          try simp only [Act.put, List.setIfInBounds_toArray, List.set_cons_zero, List.set_cons_succ]
                          refine wpAnyH_take (i := 9) (oi := ?_) (v := ?_) ?_ (by kernel_rfl) (by kernel_rfl) (by kernel_rfl) ?_ ?_ (by assumption) ?_; rotate_left 2; (focus (simp only [List.getElem?_toArray, List.getElem?_cons_succ, List.getElem?_cons_zero]; rfl)); (focus (exact fun _ _ _ h => h)); first | (focus (refine Or.inl ⟨by rfl, ?_⟩; intro w hSw; (try dsimp only at hSw); (try dsimp only [Array.getD]); go_simp; (try with_reducible rfl))) | (focus (refine Or.inr ⟨by rfl, ?_⟩; rfl)) | fail "op 9"
                          try simp only [Act.put, List.setIfInBounds_toArray, List.set_cons_zero, List.set_cons_succ]
                          refine wpAnyH_done (by kernel_rfl) ?_ _
                          have HV := Lib.hid ((HQ.out.grow hHeld).last)
                          clear hHeld hz0
                          (try rw [Hne.out])
                          (try rw [show (!decide (y = x)) = false by rw [Hyx.out]; rfl])
                          clear HQ Hrg
                          go_wp2_with fail
                          go_loopw [25] (fun iv wr => ∃ (i : Nat) (F' : Nat → Value), i ≤ n ∧ iv = .int .i64 i ∧ Hid (MV w wr p2 b2 g2 r n x H J A (A + 1) PB F F' i)) (fun iv _ => n - (intOf iv).toNat)
                          case atStart => exact ⟨0, F, Nat.zero_le _, rfl, HV⟩
                          case round =>
                            obtain ⟨i, F', hi, rfl, HM⟩ := hrel
                            clear HV
                            by_cases hlt : i < n
                            · have hlt' : (i : Int) < n := by omega
                              have hi8 : i < 8 := by omega
                              have hi8i : (i : Int) < 8 := by omega
                              have Hca := Lib.hid (HM.out.hd.arr i hi8).1
                              have Hfa := Lib.hid (HM.out.hd.arr i hi8).2
                              have hrow := HM.out.hd.row i hi8
                              simp only [if_neg (Nat.lt_irrefl _)] at hrow
                              have Hrow := Lib.hid hrow
                              have HnA := Lib.hid (show ¬ (F' i).ownBlock = some A from fun z => by have := (HM.out.hd.own_lt hi8 z).1; omega)
                              have Hx := Lib.hid (fun j (hj : (F' i).ownBlock = some j) => show A ≤ j ∧ XF A F j from ⟨by have := (HM.out.hd.own_lt hi8 hj).1; omega, .inr ⟨i, hi8, by rw [← HM.out.old i (Nat.le_refl _)]; exact hj⟩⟩)
                              have HNW := Lib.hid HM.out.hd.nw
                              have hl1 := stM_len n x H i
                              have hl2 := Hrl.out (i : Int)
                              have HI := Lib.hid (show I64 (i : Int) by unfold I64; omega)
                              have HZ := Lib.hid (Hrep.out i hlt)
                              have Hzl := Lib.hid (show (stM n x H i ++ repL (upA n) (glO (stM n x H) J) i).length ≤ 100000 by rw [List.length_append]; omega)
                              have Hl1 := Lib.hid (show (stM n x H i).length ≤ 1000 by omega)
                              have Hl2 := Lib.hid (show (repL (upA n) (glO (stM n x H) J) i).length ≤ 1000 by omega)
                              clear hrow hl1 hl2
                              go_upto_region 59 with fail
                              refine region_startJ (S := fun w' => Bt (fun j => (F' i).ownBlock = some j) wr w') 10 (by kernel_rfl) (by exact Bt.of (Gr.dr Gr.rfl')) (fun wz hz0 hHeld => ?_)
                              simp only [List.size_toArray, List.length_cons, List.length_nil, Nat.reduceAdd]
                              refine wpAnyJ_take (i := 0) (oi := ?_) (v := ?_) ?_ (by kernel_rfl) ?_ ?_ (by assumption) ?_; rotate_left 2; (focus (simp only [List.getElem?_toArray, List.getElem?_cons_zero]; rfl)); (focus (exact fun _ _ _ h => h)); first | (focus (refine Or.inl ⟨by rfl, ?_⟩; intro w hSw; (try dsimp only at hSw); (try dsimp only [Array.getD]); go_simp; (try with_reducible rfl))) | (focus (refine Or.inr ⟨by rfl, ?_⟩; rfl)) | fail "op 0"
                              try simp only [Act.put, List.setIfInBounds_toArray, List.set_cons_zero, List.set_cons_succ]
                              refine wpAnyJ_take (i := 1) (oi := ?_) (v := ?_) ?_ (by kernel_rfl) ?_ ?_ (by assumption) ?_; rotate_left 2; (focus (simp only [List.getElem?_toArray, List.getElem?_cons_succ, List.getElem?_cons_zero]; rfl)); (focus (exact fun _ _ _ h => h)); first | (focus (refine Or.inl ⟨by rfl, ?_⟩; intro w hSw; (try dsimp only at hSw); (try dsimp only [Array.getD]); go_simp; (try with_reducible rfl))) | (focus (refine Or.inr ⟨by rfl, ?_⟩; rfl)) | fail "op 1"
                              try simp only [Act.put, List.setIfInBounds_toArray, List.set_cons_zero, List.set_cons_succ]
                              refine wpAnyJ_take (i := 2) (oi := ?_) (v := ?_) ?_ (by kernel_rfl) ?_ ?_ (by assumption) ?_; rotate_left 2; (focus (simp only [List.getElem?_toArray, List.getElem?_cons_succ, List.getElem?_cons_zero]; rfl)); (focus (exact fun _ _ _ h => h)); first | (focus (refine Or.inl ⟨by rfl, ?_⟩; intro w hSw; (try dsimp only at hSw); (try dsimp only [Array.getD]); go_simp; (try with_reducible rfl))) | (focus (refine Or.inr ⟨by rfl, ?_⟩; rfl)) | fail "op 2"
                              try simp only [Act.put, List.setIfInBounds_toArray, List.set_cons_zero, List.set_cons_succ]
                              refine wpAnyJ_take (i := 3) (oi := ?_) (v := ?_) ?_ (by kernel_rfl) ?_ ?_ (by assumption) ?_; rotate_left 2; (focus (simp only [List.getElem?_toArray, List.getElem?_cons_succ, List.getElem?_cons_zero]; rfl)); (focus (exact fun _ _ _ h => h)); first | (focus (refine Or.inl ⟨by rfl, ?_⟩; intro w hSw; (try dsimp only at hSw); have ca := hSw.cell (p := ⟨A, i, none⟩) HnA.out Hca.out; (try dsimp only [Array.getD]); go_simp; (try with_reducible rfl))) | (focus (refine Or.inr ⟨by rfl, ?_⟩; rfl)) | fail "op 3"
                              try simp only [Act.put, List.setIfInBounds_toArray, List.set_cons_zero, List.set_cons_succ]
                              refine wpAnyJ_take (i := 4) (oi := ?_) (v := ?_) ?_ (by kernel_rfl) ?_ ?_ (by assumption) ?_; rotate_left 2; (focus (simp only [List.getElem?_toArray, List.getElem?_cons_succ, List.getElem?_cons_zero]; rfl)); (focus (exact fun _ _ _ h => h)); first | (focus (refine Or.inl ⟨by rfl, ?_⟩; intro w hSw; (try dsimp only at hSw); (try dsimp only [Array.getD]); go_simp; (try with_reducible rfl))) | (focus (refine Or.inr ⟨by rfl, ?_⟩; rfl)) | fail "op 4"
                              try simp only [Act.put, List.setIfInBounds_toArray, List.set_cons_zero, List.set_cons_succ]
                              refine wpAnyJ_take (i := 5) (oi := ?_) (v := ?_) ?_ (by kernel_rfl) ?_ ?_ (by assumption) ?_; rotate_left 2; (focus (simp only [List.getElem?_toArray, List.getElem?_cons_succ, List.getElem?_cons_zero]; rfl)); (focus (exact fun _ _ _ h => h)); first | (focus (refine Or.inl ⟨by rfl, ?_⟩; intro w hSw; (try dsimp only at hSw); (try dsimp only [Array.getD]); go_simp; (try with_reducible rfl))) | (focus (refine Or.inr ⟨by rfl, ?_⟩; rfl)) | fail "op 5"
                              try simp only [Act.put, List.setIfInBounds_toArray, List.set_cons_zero, List.set_cons_succ]
                              refine wpAnyJ_ready (rs := [6]) (by kernel_rfl) (by simp) (by rfl) ?_
                              refine AllReadyJ.cons (o := ?_) ?_ (fun K hK => ?_) AllReadyJ.nil; rotate_left; (focus (simp only [List.getElem?_toArray, List.getElem?_cons_succ, List.getElem?_cons_zero]; rfl))
                              go_simp
                              go_at_call 20
                              refine ((HM.out.rd.far hHeld Hx.out).repair Hun.out (glM_len n x H J) (i : Int) HI.out).mono ?_
                              rintro e w6 ⟨v6, rfl, ho6, hg6⟩
                              have R6 := Lib.hid (rdRow_of_own ho6)
                              have G6 := Lib.hid (hz0.tr hg6)
                              clear ho6
                              refine hK.out _ _ (hHeld.tr (.of hg6)) (fun hHeld => ?_)
                              clear hK K
                              try simp only [Act.put, List.setIfInBounds_toArray, List.set_cons_zero, List.set_cons_succ]
                              refine wpAnyJ_ready (rs := [7]) (by kernel_rfl) (by simp) (by rfl) ?_
                              refine AllReadyJ.cons (o := ?_) ?_ (fun K hK => ?_) AllReadyJ.nil; rotate_left; (focus (simp only [List.getElem?_toArray, List.getElem?_cons_succ, List.getElem?_cons_zero]; rfl))
                              refine wp_join_pt (.tmp 215) (.tmp 218) rfl (A + 1) (F' i) (stM n x H i) rfl (own_gr Hrow.out G6.out) (repL (upA n) (glO (stM n x H) J) i) v6 rfl R6.out Hl1.out Hl2.out (Nat.le_trans HNW.out G6.out.size) (fun v7 w7 ho7 hg7 => ?_)
                              have hbt7 : Bt (fun b => (F' i).ownBlock = some b) w6 w7 := ⟨hg7.os, hg7.tape, hg7.output, hg7.size, fun b hb hne => hg7.block b hb (fun e => hne e.symm)⟩
                              have HB7 := Lib.hid ((Bt.of G6.out).tr hbt7)
                              have R7 := Lib.hid (rdRow_of_own ho7)
                              clear ho7 hg7
                              refine hK.out _ _ (hHeld.tr hbt7) (fun hHeld => ?_)
                              clear hK K
                              try simp only [Act.put, List.setIfInBounds_toArray, List.set_cons_zero, List.set_cons_succ]
                              refine wpAnyJ_ready (rs := [8]) (by kernel_rfl) (by simp) (by rfl) ?_
                              refine AllReadyJ.cons (o := ?_) ?_ (fun K hK => ?_) AllReadyJ.nil; rotate_left; (focus (simp only [List.getElem?_toArray, List.getElem?_cons_succ, List.getElem?_cons_zero]; rfl))
                              go_simp
                              go_at_call 19
                              refine (rsort_calls v7 _ _ R7.out Hzl.out).mono ?_
                              rintro e w8 ⟨v8, rfl, ho8, hg8⟩
                              rw [HZ.out] at ho8
                              obtain ⟨a8, c8, e8⟩ : ∃ a c, v8 = .slice a 1 c := own_slice ho8
                              subst e8
                              have HO8 := Lib.hid (own_mono ho8 HB7.out.size)
                              have G8 := Lib.hid hg8
                              clear ho8
                              refine hK.out _ _ (hHeld.tr (.of hg8)) (fun hHeld => ?_)
                              clear hK K
                              try simp only [Act.put, List.setIfInBounds_toArray, List.set_cons_zero, List.set_cons_succ]
                              refine wpAnyJ_take (i := 9) (oi := ?_) (v := ?_) ?_ (by kernel_rfl) ?_ ?_ (by assumption) ?_; rotate_left 2; (focus (simp only [List.getElem?_toArray, List.getElem?_cons_succ, List.getElem?_cons_zero]; rfl)); (focus (exact fun _ _ _ h => h)); first | (focus (refine Or.inl ⟨by rfl, ?_⟩; intro w hSw; (try dsimp only at hSw); (try dsimp only [Array.getD]); go_simp; (try with_reducible rfl))) | (focus (refine Or.inr ⟨by rfl, ?_⟩; rfl)) | fail "op 9"
                              try simp only [Act.put, List.setIfInBounds_toArray, List.set_cons_zero, List.set_cons_succ]
                              refine wpAnyJ_tail (i := 10) (o := ?_) (by kernel_rfl) (by decide) ?_ (fun K hK => ?_); rotate_left; (focus (simp only [List.getElem?_toArray, List.getElem?_cons_succ, List.getElem?_cons_zero]; rfl))
                              have c5 := hHeld.cell (p := ⟨A, i, none⟩) HnA.out Hca.out
                              have f5 := frozen_bt hHeld (p := ⟨A, i, none⟩) HnA.out Hca.out Hfa.out
                              go_simp
                              refine hK.out _ _ ?_
                              clear hK K
                              try simp only [Act.put, List.setIfInBounds_toArray, List.set_cons_zero, List.set_cons_succ]
                              refine wpAny_done (by kernel_rfl) ?_ _
                              have HM9 := Lib.hid (HM.out.step hi8 HB7.out G8.out HO8.out)
                              generalize w8.setCell ⟨A, i, none⟩ (.slice a8 1 c8) = w9 at *
                              clear hHeld hz0
                              have hrow := HM9.out.hd.row i hi8
                              have hc9 := (HM9.out.hd.arr i hi8).1
                              simp only [if_pos (Nat.lt_succ_self _), if_true] at hrow hc9
                              obtain ⟨bh, oh, _, e1, _, hrg⟩ := rd_range ptC 6 (fun _ => rfl) (rdRow_of_own hrow) (Nat.succ_pos 0)
                              replace e1 := (Value.slice.inj e1).1
                              subst e1
                              obtain ⟨z, ez⟩ : ∃ z, x = z := ⟨_, rfl⟩
                              have Hzx := Lib.hid (show decide (z ≠ x) = false from decide_eq_false (fun q => q ez.symm))
                              have Hzx2 := Lib.hid (show decide (z = x) = true from decide_eq_true ez.symm)
                              have Hrh := Lib.hid (show w9.rangeAt bh oh (ptC z) by have := hrg 0 (Nat.succ_pos 0); rw [← ez]; simpa using this)
                              clear ez
                              have Hc9 := Lib.hid hc9
                              clear hrow hc9 hrg HM Hca Hfa Hrow HnA Hx HNW HZ Hzl Hl1 Hl2 R6 G6 HB7 R7 HO8 G8 hbt7
                              go_upto_region 60 with fail
                              refine region_start (S := fun w' => Gr w9 w') (by kernel_rfl) (by exact Gr.dr Gr.rfl') (fun wz hz0 hHeld => ?_)
                              simp only [List.size_toArray, List.length_cons, List.length_nil, Nat.reduceAdd]
                              refine wpAnyH_take (i := 0) (oi := ?_) (v := ?_) ?_ (by kernel_rfl) (by kernel_rfl) (by kernel_rfl) ?_ ?_ (by assumption) ?_; rotate_left 2; (focus (simp only [List.getElem?_toArray, List.getElem?_cons_zero]; rfl)); (focus (exact fun _ _ _ h => h)); first | (focus (refine Or.inl ⟨by rfl, ?_⟩; intro w hSw; (try dsimp only at hSw); (try dsimp only [Array.getD]); go_simp; (try with_reducible rfl))) | (focus (refine Or.inr ⟨by rfl, ?_⟩; rfl)) | fail "op 0"
                              try simp only [Act.put, List.setIfInBounds_toArray, List.set_cons_zero, List.set_cons_succ]
                              refine wpAnyH_take (i := 1) (oi := ?_) (v := ?_) ?_ (by kernel_rfl) (by kernel_rfl) (by kernel_rfl) ?_ ?_ (by assumption) ?_; rotate_left 2; (focus (simp only [List.getElem?_toArray, List.getElem?_cons_succ, List.getElem?_cons_zero]; rfl)); (focus (exact fun _ _ _ h => h)); first | (focus (refine Or.inl ⟨by rfl, ?_⟩; intro w hSw; (try dsimp only at hSw); (try dsimp only [Array.getD]); go_simp; (try with_reducible rfl))) | (focus (refine Or.inr ⟨by rfl, ?_⟩; rfl)) | fail "op 1"
                              try simp only [Act.put, List.setIfInBounds_toArray, List.set_cons_zero, List.set_cons_succ]
                              refine wpAnyH_take (i := 2) (oi := ?_) (v := ?_) ?_ (by kernel_rfl) (by kernel_rfl) (by kernel_rfl) ?_ ?_ (by assumption) ?_; rotate_left 2; (focus (simp only [List.getElem?_toArray, List.getElem?_cons_succ, List.getElem?_cons_zero]; rfl)); (focus (exact fun _ _ _ h => h)); first | (focus (refine Or.inl ⟨by rfl, ?_⟩; intro w hSw; (try dsimp only at hSw); have ca := keepc hSw Hc9.out; (try dsimp only [Array.getD]); go_simp; (try with_reducible rfl))) | (focus (refine Or.inr ⟨by rfl, ?_⟩; rfl)) | fail "op 2"
                              try simp only [Act.put, List.setIfInBounds_toArray, List.set_cons_zero, List.set_cons_succ]
                              refine wpAnyH_take (i := 3) (oi := ?_) (v := ?_) ?_ (by kernel_rfl) (by kernel_rfl) (by kernel_rfl) ?_ ?_ (by assumption) ?_; rotate_left 2; (focus (simp only [List.getElem?_toArray, List.getElem?_cons_succ, List.getElem?_cons_zero]; rfl)); (focus (exact fun _ _ _ h => h)); first | (focus (refine Or.inl ⟨by rfl, ?_⟩; intro w hSw; (try dsimp only at hSw); skip; (try dsimp only [Array.getD]); go_simp; (try with_reducible rfl))) | (focus (refine Or.inr ⟨by rfl, ?_⟩; rfl)) | fail "op 3"
                              try simp only [Act.put, List.setIfInBounds_toArray, List.set_cons_zero, List.set_cons_succ]
                              refine wpAnyH_take (i := 4) (oi := ?_) (v := ?_) ?_ (by kernel_rfl) (by kernel_rfl) (by kernel_rfl) ?_ ?_ (by assumption) ?_; rotate_left 2; (focus (simp only [List.getElem?_toArray, List.getElem?_cons_succ, List.getElem?_cons_zero]; rfl)); (focus (exact fun _ _ _ h => h)); first | (focus (refine Or.inl ⟨by rfl, ?_⟩; intro w hSw; (try dsimp only at hSw); (try dsimp only [Array.getD]); go_simp; (try with_reducible rfl))) | (focus (refine Or.inr ⟨by rfl, ?_⟩; rfl)) | fail "op 4"
                              try simp only [Act.put, List.setIfInBounds_toArray, List.set_cons_zero, List.set_cons_succ]
                              refine wpAnyH_take (i := 5) (oi := ?_) (v := ?_) ?_ (by kernel_rfl) (by kernel_rfl) (by kernel_rfl) ?_ ?_ (by assumption) ?_; rotate_left 2; (focus (simp only [List.getElem?_toArray, List.getElem?_cons_succ, List.getElem?_cons_zero]; rfl)); (focus (exact fun _ _ _ h => h)); first | (focus (refine Or.inl ⟨by rfl, ?_⟩; intro w hSw; (try dsimp only at hSw); (try dsimp only [Array.getD]); go_simp; (try with_reducible rfl))) | (focus (refine Or.inr ⟨by rfl, ?_⟩; rfl)) | fail "op 5"
                              try simp only [Act.put, List.setIfInBounds_toArray, List.set_cons_zero, List.set_cons_succ]
                              refine wpAnyH_take (i := 6) (oi := ?_) (v := ?_) ?_ (by kernel_rfl) (by kernel_rfl) (by kernel_rfl) ?_ ?_ (by assumption) ?_; rotate_left 2; (focus (simp only [List.getElem?_toArray, List.getElem?_cons_succ, List.getElem?_cons_zero]; rfl)); (focus (exact fun _ _ _ h => h)); first | (focus (refine Or.inl ⟨by rfl, ?_⟩; intro w hSw; (try dsimp only at hSw); (try dsimp only [Array.getD]); go_simp; (try with_reducible rfl))) | (focus (refine Or.inr ⟨by rfl, ?_⟩; rfl)) | fail "op 6"
                              try simp only [Act.put, List.setIfInBounds_toArray, List.set_cons_zero, List.set_cons_succ]
                              refine wpAnyH_take (i := 7) (oi := ?_) (v := ?_) ?_ (by kernel_rfl) (by kernel_rfl) (by kernel_rfl) ?_ ?_ (by assumption) ?_; rotate_left 2; (focus (simp only [List.getElem?_toArray, List.getElem?_cons_succ, List.getElem?_cons_zero]; rfl)); (focus (exact fun _ _ _ h => h)); first | (focus (refine Or.inl ⟨by rfl, ?_⟩; intro w hSw; (try dsimp only at hSw); (try dsimp only [Array.getD]); go_simp; (try with_reducible rfl))) | (focus (refine Or.inr ⟨by rfl, ?_⟩; rfl)) | fail "op 7"
                              try simp only [Act.put, List.setIfInBounds_toArray, List.set_cons_zero, List.set_cons_succ]
                              refine wpAnyH_take (i := 8) (oi := ?_) (v := ?_) ?_ (by kernel_rfl) (by kernel_rfl) (by kernel_rfl) ?_ ?_ (by assumption) ?_; rotate_left 2; (focus (simp only [List.getElem?_toArray, List.getElem?_cons_succ, List.getElem?_cons_zero]; rfl)); (focus (exact fun _ _ _ h => h)); first | (focus (refine Or.inl ⟨by rfl, ?_⟩; intro w hSw; (try dsimp only at hSw); have ca := keepc hSw Hc9.out; (try dsimp only [Array.getD]); go_simp; (try with_reducible rfl))) | (focus (refine Or.inr ⟨by rfl, ?_⟩; rfl)) | fail "op 8"
                              try simp only [Act.put, List.setIfInBounds_toArray, List.set_cons_zero, List.set_cons_succ]
                              refine wpAnyH_take (i := 9) (oi := ?_) (v := ?_) ?_ (by kernel_rfl) (by kernel_rfl) (by kernel_rfl) ?_ ?_ (by assumption) ?_; rotate_left 2; (focus (simp only [List.getElem?_toArray, List.getElem?_cons_succ, List.getElem?_cons_zero]; rfl)); (focus (exact fun _ _ _ h => h)); first | (focus (refine Or.inl ⟨by rfl, ?_⟩; intro w hSw; (try dsimp only at hSw); (try dsimp only [Array.getD]); go_simp; (try with_reducible rfl))) | (focus (refine Or.inr ⟨by rfl, ?_⟩; rfl)) | fail "op 9"
                              try simp only [Act.put, List.setIfInBounds_toArray, List.set_cons_zero, List.set_cons_succ]
                              refine wpAnyH_take (i := 10) (oi := ?_) (v := ?_) ?_ (by kernel_rfl) (by kernel_rfl) (by kernel_rfl) ?_ ?_ (by assumption) ?_; rotate_left 2; (focus (simp only [List.getElem?_toArray, List.getElem?_cons_succ, List.getElem?_cons_zero]; rfl)); (focus (exact fun _ _ _ h => h)); first | (focus (refine Or.inl ⟨by rfl, ?_⟩; intro w hSw; (try dsimp only at hSw); refine (exec_load_mid 26 (.tmp 231) (by rfl) bh oh (by rfl) (ptC z) _ (rangeAt_gr hSw Hrh.out) Try.underlying26 rfl info_pt).trans ?_; with_reducible rfl)) | (focus (refine Or.inr ⟨by rfl, ?_⟩; rfl)) | fail "op 10"
                              try simp only [Act.put, List.setIfInBounds_toArray, List.set_cons_zero, List.set_cons_succ]
                              refine wpAnyH_take (i := 11) (oi := ?_) (v := ?_) ?_ (by kernel_rfl) (by kernel_rfl) (by kernel_rfl) ?_ ?_ (by assumption) ?_; rotate_left 2; (focus (simp only [List.getElem?_toArray, List.getElem?_cons_succ, List.getElem?_cons_zero]; rfl)); (focus (exact fun _ _ _ h => h)); first | (focus (refine Or.inl ⟨by rfl, ?_⟩; intro w hSw; (try dsimp only at hSw); refine (exec_load_row 26 (.tmp 4) (by rfl) PB (by rfl) _ (ptC x).toArray (0, 0) _ (hSw.blk HM9.out.bp) Try.underlying26 rfl info_pt).trans ?_; with_reducible rfl)) | (focus (refine Or.inr ⟨by rfl, ?_⟩; rfl)) | fail "op 11"
                              try simp only [Act.put, List.setIfInBounds_toArray, List.set_cons_zero, List.set_cons_succ]
                              refine wpAnyH_take (i := 12) (oi := ?_) (v := ?_) ?_ (by kernel_rfl) (by kernel_rfl) (by kernel_rfl) ?_ ?_ (by assumption) ?_; rotate_left 2; (focus (simp only [List.getElem?_toArray, List.getElem?_cons_succ, List.getElem?_cons_zero]; rfl)); (focus (exact fun _ _ _ h => h)); first | (focus (refine Or.inl ⟨by rfl, ?_⟩; intro w hSw; (try dsimp only at hSw); (try dsimp only [Array.getD]); go_simp; refine (ne_pt z x _).trans ?_; with_reducible rfl)) | (focus (refine Or.inr ⟨by rfl, ?_⟩; rfl)) | fail "op 12"
                              try simp only [Act.put, List.setIfInBounds_toArray, List.set_cons_zero, List.set_cons_succ]
                              refine wpAnyH_take (i := 13) (oi := ?_) (v := ?_) ?_ (by kernel_rfl) (by kernel_rfl) (by kernel_rfl) ?_ ?_ (by assumption) ?_; rotate_left 2; (focus (simp only [List.getElem?_toArray, List.getElem?_cons_succ, List.getElem?_cons_zero]; rfl)); (focus (exact fun _ _ _ h => h)); first | (focus (refine Or.inl ⟨by rfl, ?_⟩; intro w hSw; (try dsimp only at hSw); (try dsimp only [Array.getD]); go_simp; (try with_reducible rfl))) | (focus (refine Or.inr ⟨by rfl, ?_⟩; rfl)) | fail "op 13"
                              try simp only [Act.put, List.setIfInBounds_toArray, List.set_cons_zero, List.set_cons_succ]
                              refine wpAnyH_done (by kernel_rfl) ?_ _
                              have HM10 := Lib.hid (HM9.out.grow hHeld)
                              clear hHeld hz0
                              (try rw [Hzx.out])
                              (try rw [show (!decide (z = x)) = false by rw [Hzx2.out]; rfl])
                              clear HM9 Hc9 Hrh
                              go_wp2_with fail
                              go_roundw
                              case rel => exact ⟨i + 1, _, by omega, by go_num, HM10⟩
                              case measure => simp [intOf]; omega
                            · obtain rfl : n = i := by omega
                              clear hlt hi
                              go_wp2_with fail
                              go_ret
                              exact ⟨rfl, HM.out.gr⟩
                        · have hdn : decide ((0 : Int) < r ∧ (r : Int) ≤ (J.length : Int)) = false := decide_eq_false (by omega)
                          have Hdn := Lib.hid hdn
                          have hin : i < A1.length + n := by
                            rcases Nat.lt_or_ge i (A1.length + n) with h | h
                            · exact h
                            · have := HJ.out.full h; omega
                          clear hdn
                          go_wp2_with fail
                          refine (HQ.out.rd.done).mono ?_
                          rintro e w5 ⟨rfl, hg5⟩
                          rw [Hdn.out]
                          replace HQ := Lib.hid (HQ.out.grow hg5)
                          clear hg5 Hdn
                          have co1 := (cell_of_row _ _ 1 _ _ _ HQ.out.bo).trans (rfl : _ = some (Value.slice a1 A1.length c1))
                          by_cases hia : i < A1.length
                          · have hia' : (i : Int) < A1.length := by omega
                            obtain ⟨m, hm7, em⟩ := and7_ok A1[i]
                            obtain ⟨bl, ol, _, e1, _, hrg⟩ := rd_range (fun y : Int => [.int .i64 y]) 1 (fun _ => rfl) (H1.out.gr HQ.out.gr) (by omega)
                            replace e1 := (Value.slice.inj e1).1
                            subst e1
                            have ci := hrg i hia 0 _ rfl
                            have hm7' : ¬ (7 : Int) < m := by omega
                            clear hrg
                            generalize A1[i] = y at *
                            rw [Nat.mul_one, Nat.add_zero] at ci
                            have HS := Lib.hid (HJ.out.step (m : Int) (fun h => absurd h (by omega)))
                            by_cases hmn : m < n
                            · have hmn' : (m : Int) < n := by omega
                              have ca := (HQ.out.hd.arr m (by omega)).1
                              go_wp2_with fail
                              refine (HQ.out.ans (by omega) m hm7).mono ?_
                              rintro e w5 ⟨rfl, hM5⟩
                              have HM5 := Lib.hid hM5
                              clear hM5 ca
                              go_wp2_with fail
                              go_roundw
                              case rel => exact ⟨i + 1, _, by omega, by go_num, HM5, HS⟩
                              case measure => simp [intOf]; omega
                            · have hmn' : ¬ (m : Int) < n := by omega
                              have eH : ackH (upA n) J m = J := if_neg (fun z => hmn (by have := mem_up.1 z.1; omega))
                              rw [eH] at HS
                              clear eH
                              go_wp2_with fail
                              all_goals go_roundw
                              all_goals first
                                | exact ⟨i + 1, _, by omega, by go_num, HQ, HS⟩
                                | (simp [intOf]; omega)
                          · have hia' : ¬ (i : Int) < A1.length := by omega
                            obtain ⟨m, em⟩ : ∃ m : Nat, i - A1.length = m := ⟨_, rfl⟩
                            have em' : (i : Int) - A1.length = m := by omega
                            have hm7 : m ≤ 7 := by omega
                            have hm7' : ¬ (7 : Int) < m := by omega
                            have HS := Lib.hid (HJ.out.step (m : Int) (fun h => by omega))
                            by_cases hmn : m < n
                            · have hmn' : (m : Int) < n := by omega
                              have ca := (HQ.out.hd.arr m (by omega)).1
                              go_wp2_with fail
                              refine (HQ.out.ans (by omega) m hm7).mono ?_
                              rintro e w5 ⟨rfl, hM5⟩
                              have HM5 := Lib.hid hM5
                              clear hM5 ca
                              go_wp2_with fail
                              go_roundw
                              case rel => exact ⟨i + 1, _, by omega, by go_num, HM5, HS⟩
                              case measure => simp [intOf]; omega
                            · have hmn' : ¬ (m : Int) < n := by omega
                              have eH : ackH (upA n) J m = J := if_neg (fun z => hmn (by have := mem_up.1 z.1; omega))
                              rw [eH] at HS
                              clear eH
                              go_wp2_with fail
                              all_goals go_roundw
                              all_goals first
                                | exact ⟨i + 1, _, by omega, by go_num, HQ, HS⟩
                                | (simp [intOf]; omega)
                    · have hdn : decide ((0 : Int) < k ∧ (k : Int) ≤ (H.length : Int)) = false := decide_eq_false (by omega)
                      have Hdn := Lib.hid hdn
                      have hin : i < A0.length + n := by
                        rcases Nat.lt_or_ge i (A0.length + n) with h | h
                        · exact h
                        · have := HA.out.full h; omega
                      clear hdn
                      go_wp2_with fail
                      refine (HQ.out.wr.done).mono ?_
                      rintro e w5 ⟨rfl, hg5⟩
                      rw [Hdn.out]
                      replace HQ := Lib.hid (HQ.out.grow hg5)
                      clear hg5 Hdn
                      have co0 := (cell_of_row _ _ 0 _ _ _ HQ.out.bo).trans (rfl : _ = some (Value.slice a0 A0.length c0))
                      by_cases hia : i < A0.length
                      · have hia' : (i : Int) < A0.length := by omega
                        obtain ⟨m, hm7, em⟩ := and7_ok A0[i]
                        obtain ⟨bl, ol, _, e1, _, hrg⟩ := rd_range (fun y : Int => [.int .i64 y]) 1 (fun _ => rfl) (H0.out.gr HQ.out.gr) (by omega)
                        replace e1 := (Value.slice.inj e1).1
                        subst e1
                        have ci := hrg i hia 0 _ rfl
                        have hm7' : ¬ (7 : Int) < m := by omega
                        clear hrg
                        generalize A0[i] = y at *
                        rw [Nat.mul_one, Nat.add_zero] at ci
                        go_wp2_with fail
                        refine (HQ.out.ack (by omega) m hm7).mono ?_
                        rintro e w5 ⟨rfl, hM5⟩
                        have HS := Lib.hid (HA.out.step (m : Int) (fun h => absurd h (by omega)))
                        by_cases hb : ackB (upA n) H m
                        · have hmn : m < n := by have := mem_up.1 hb.1; omega
                          have hm8 : m < 8 := by omega
                          have hm8i : (m : Int) < 8 := by omega
                          rw [decide_eq_true hb]
                          have eH : ackH (upA n) H m = H ++ [(m : Int)] := if_pos hb
                          rw [eH] at hM5 HS
                          have HP := Lib.hid (stM_none (p := x) hmn hb.2)
                          have HM5 := Lib.hid hM5
                          have Hca := Lib.hid (HM5.out.hd.arr m hm8).1
                          have Hfa := Lib.hid (HM5.out.hd.arr m hm8).2
                          have HQl := Lib.hid (Nat.le_trans (stM_len n x H m) (show 1 ≤ 100000 by decide))
                          clear hM5 eH hb
                          go_upto_region 42 with fail
                          refine region_startJ (S := fun w' => Gr w5 w') 7 (by kernel_rfl) (by exact Gr.dr Gr.rfl') (fun wz hz0 hHeld => ?_)
                          simp only [List.size_toArray, List.length_cons, List.length_nil, Nat.reduceAdd]
                          refine wpAnyJ_take (i := 0) (oi := ?_) (v := ?_) ?_ (by kernel_rfl) ?_ ?_ (by assumption) ?_; rotate_left 2; (focus (simp only [List.getElem?_toArray, List.getElem?_cons_zero]; rfl)); (focus (exact fun _ _ _ h => h)); first | (focus (refine Or.inl ⟨by rfl, ?_⟩; intro w hSw; (try dsimp only at hSw); (try dsimp only [Array.getD]); go_simp; (try with_reducible rfl))) | (focus (refine Or.inr ⟨by rfl, ?_⟩; rfl)) | fail "op 0"
                          try simp only [Act.put, List.setIfInBounds_toArray, List.set_cons_zero, List.set_cons_succ]
                          refine wpAnyJ_take (i := 1) (oi := ?_) (v := ?_) ?_ (by kernel_rfl) ?_ ?_ (by assumption) ?_; rotate_left 2; (focus (simp only [List.getElem?_toArray, List.getElem?_cons_succ, List.getElem?_cons_zero]; rfl)); (focus (exact fun _ _ _ h => h)); first | (focus (refine Or.inl ⟨by rfl, ?_⟩; intro w hSw; (try dsimp only at hSw); (try dsimp only [Array.getD]); go_simp; (try with_reducible rfl))) | (focus (refine Or.inr ⟨by rfl, ?_⟩; rfl)) | fail "op 1"
                          try simp only [Act.put, List.setIfInBounds_toArray, List.set_cons_zero, List.set_cons_succ]
                          refine wpAnyJ_take (i := 2) (oi := ?_) (v := ?_) ?_ (by kernel_rfl) ?_ ?_ (by assumption) ?_; rotate_left 2; (focus (simp only [List.getElem?_toArray, List.getElem?_cons_succ, List.getElem?_cons_zero]; rfl)); (focus (exact fun _ _ _ h => h)); first | (focus (refine Or.inl ⟨by rfl, ?_⟩; intro w hSw; (try dsimp only at hSw); (try dsimp only [Array.getD]); go_simp; (try with_reducible rfl))) | (focus (refine Or.inr ⟨by rfl, ?_⟩; rfl)) | fail "op 2"
                          try simp only [Act.put, List.setIfInBounds_toArray, List.set_cons_zero, List.set_cons_succ]
                          refine wpAnyJ_take (i := 3) (oi := ?_) (v := ?_) ?_ (by kernel_rfl) ?_ ?_ (by assumption) ?_; rotate_left 2; (focus (simp only [List.getElem?_toArray, List.getElem?_cons_succ, List.getElem?_cons_zero]; rfl)); (focus (exact fun _ _ _ h => h)); first | (focus (refine Or.inl ⟨by rfl, ?_⟩; intro w hSw; (try dsimp only at hSw); have ca := keepc hSw Hca.out; (try dsimp only [Array.getD]); go_simp; (try with_reducible rfl))) | (focus (refine Or.inr ⟨by rfl, ?_⟩; rfl)) | fail "op 3"
                          try simp only [Act.put, List.setIfInBounds_toArray, List.set_cons_zero, List.set_cons_succ]
                          refine wpAnyJ_take (i := 4) (oi := ?_) (v := ?_) ?_ (by kernel_rfl) ?_ ?_ (by assumption) ?_; rotate_left 2; (focus (simp only [List.getElem?_toArray, List.getElem?_cons_succ, List.getElem?_cons_zero]; rfl)); (focus (exact fun _ _ _ h => h)); first | (focus (refine Or.inl ⟨by rfl, ?_⟩; intro w hSw; (try dsimp only at hSw); refine (exec_load_row 26 (.tmp 4) (by rfl) PB (by rfl) _ (ptC x).toArray (0, 0) _ (hSw.blk HM5.out.bp) Try.underlying26 rfl info_pt).trans ?_; with_reducible rfl)) | (focus (refine Or.inr ⟨by rfl, ?_⟩; rfl)) | fail "op 4"
                          try simp only [Act.put, List.setIfInBounds_toArray, List.set_cons_zero, List.set_cons_succ]
                          refine wpAnyJ_ready (rs := [5]) (by kernel_rfl) (by simp) (by rfl) ?_
                          refine AllReadyJ.cons (o := ?_) ?_ (fun K hK => ?_) AllReadyJ.nil; rotate_left; (focus (simp only [List.getElem?_toArray, List.getElem?_cons_succ, List.getElem?_cons_zero]; rfl))
                          go_simp
                          go_at_call 15
                          refine (rput_calls (F m) (stM n x H m) _ (rdRow_of_own ((HM5.out.hd.gr hHeld).row m hm8)) HQl.out x).mono ?_
                          rintro e w6 ⟨v6, rfl, ho6, hg6⟩
                          rw [HP.out] at ho6
                          obtain ⟨a6, c6, e6⟩ : ∃ a c, v6 = .slice a 1 c := own_slice ho6
                          subst e6
                          have HO6 := Lib.hid (own_mono ho6 hHeld.size)
                          clear ho6
                          refine hK.out _ _ (hHeld.tr hg6) (fun hHeld => ?_)
                          clear hK K
                          try simp only [Act.put, List.setIfInBounds_toArray, List.set_cons_zero, List.set_cons_succ]
                          refine wpAnyJ_take (i := 6) (oi := ?_) (v := ?_) ?_ (by kernel_rfl) ?_ ?_ (by assumption) ?_; rotate_left 2; (focus (simp only [List.getElem?_toArray, List.getElem?_cons_succ, List.getElem?_cons_zero]; rfl)); (focus (exact fun _ _ _ h => h)); first | (focus (refine Or.inl ⟨by rfl, ?_⟩; intro w hSw; (try dsimp only at hSw); (try dsimp only [Array.getD]); go_simp; (try with_reducible rfl))) | (focus (refine Or.inr ⟨by rfl, ?_⟩; rfl)) | fail "op 6"
                          try simp only [Act.put, List.setIfInBounds_toArray, List.set_cons_zero, List.set_cons_succ]
                          refine wpAnyJ_tail (i := 7) (o := ?_) (by kernel_rfl) (by decide) ?_ (fun K hK => ?_); rotate_left; (focus (simp only [List.getElem?_toArray, List.getElem?_cons_succ, List.getElem?_cons_zero]; rfl))
                          have c5 := keepc hHeld Hca.out
                          have f5 := keepf hHeld Hca.out Hfa.out
                          go_simp
                          refine hK.out _ _ ?_
                          clear hK K
                          try simp only [Act.put, List.setIfInBounds_toArray, List.set_cons_zero, List.set_cons_succ]
                          refine wpAny_done (by kernel_rfl) ?_ _
                          have HM6 := Lib.hid ((HM5.out.grow hHeld).put hmn hHeld HM5.out.hd HO6.out)
                          generalize w6.setCell ⟨A, m, none⟩ (.slice a6 1 c6) = w7 at *
                          clear hHeld HM5 HO6 Hca Hfa HP HQl
                          go_wp2_with fail
                          go_roundw
                          case rel => exact ⟨i + 1, _, _, by omega, by go_num, HM6, HS⟩
                          case measure => simp [intOf]; omega
                        · rw [decide_eq_false hb]
                          have eH : ackH (upA n) H m = H := if_neg hb
                          rw [eH] at hM5 HS
                          have HM5 := Lib.hid hM5
                          clear hM5 eH hb
                          go_wp2_with fail
                          go_roundw
                          case rel => exact ⟨i + 1, _, _, by omega, by go_num, HM5, HS⟩
                          case measure => simp [intOf]; omega
                      · have hia' : ¬ (i : Int) < A0.length := by omega
                        obtain ⟨m, em⟩ : ∃ m : Nat, i - A0.length = m := ⟨_, rfl⟩
                        have em' : (i : Int) - A0.length = m := by omega
                        have hm7 : m ≤ 7 := by omega
                        have hm7' : ¬ (7 : Int) < m := by omega
                        go_wp2_with fail
                        refine (HQ.out.ack (by omega) m hm7).mono ?_
                        rintro e w5 ⟨rfl, hM5⟩
                        have HS := Lib.hid (HA.out.step (m : Int) (fun h => by omega))
                        by_cases hb : ackB (upA n) H m
                        · have hmn : m < n := by have := mem_up.1 hb.1; omega
                          have hm8 : m < 8 := by omega
                          have hm8i : (m : Int) < 8 := by omega
                          rw [decide_eq_true hb]
                          have eH : ackH (upA n) H m = H ++ [(m : Int)] := if_pos hb
                          rw [eH] at hM5 HS
                          have HP := Lib.hid (stM_none (p := x) hmn hb.2)
                          have HM5 := Lib.hid hM5
                          have Hca := Lib.hid (HM5.out.hd.arr m hm8).1
                          have Hfa := Lib.hid (HM5.out.hd.arr m hm8).2
                          have HQl := Lib.hid (Nat.le_trans (stM_len n x H m) (show 1 ≤ 100000 by decide))
                          clear hM5 eH hb
                          go_upto_region 42 with fail
                          refine region_startJ (S := fun w' => Gr w5 w') 7 (by kernel_rfl) (by exact Gr.dr Gr.rfl') (fun wz hz0 hHeld => ?_)
                          simp only [List.size_toArray, List.length_cons, List.length_nil, Nat.reduceAdd]
                          refine wpAnyJ_take (i := 0) (oi := ?_) (v := ?_) ?_ (by kernel_rfl) ?_ ?_ (by assumption) ?_; rotate_left 2; (focus (simp only [List.getElem?_toArray, List.getElem?_cons_zero]; rfl)); (focus (exact fun _ _ _ h => h)); first | (focus (refine Or.inl ⟨by rfl, ?_⟩; intro w hSw; (try dsimp only at hSw); (try dsimp only [Array.getD]); go_simp; (try with_reducible rfl))) | (focus (refine Or.inr ⟨by rfl, ?_⟩; rfl)) | fail "op 0"
                          try simp only [Act.put, List.setIfInBounds_toArray, List.set_cons_zero, List.set_cons_succ]
                          refine wpAnyJ_take (i := 1) (oi := ?_) (v := ?_) ?_ (by kernel_rfl) ?_ ?_ (by assumption) ?_; rotate_left 2; (focus (simp only [List.getElem?_toArray, List.getElem?_cons_succ, List.getElem?_cons_zero]; rfl)); (focus (exact fun _ _ _ h => h)); first | (focus (refine Or.inl ⟨by rfl, ?_⟩; intro w hSw; (try dsimp only at hSw); (try dsimp only [Array.getD]); go_simp; (try with_reducible rfl))) | (focus (refine Or.inr ⟨by rfl, ?_⟩; rfl)) | fail "op 1"
                          try simp only [Act.put, List.setIfInBounds_toArray, List.set_cons_zero, List.set_cons_succ]
                          refine wpAnyJ_take (i := 2) (oi := ?_) (v := ?_) ?_ (by kernel_rfl) ?_ ?_ (by assumption) ?_; rotate_left 2; (focus (simp only [List.getElem?_toArray, List.getElem?_cons_succ, List.getElem?_cons_zero]; rfl)); (focus (exact fun _ _ _ h => h)); first | (focus (refine Or.inl ⟨by rfl, ?_⟩; intro w hSw; (try dsimp only at hSw); (try dsimp only [Array.getD]); go_simp; (try with_reducible rfl))) | (focus (refine Or.inr ⟨by rfl, ?_⟩; rfl)) | fail "op 2"
                          try simp only [Act.put, List.setIfInBounds_toArray, List.set_cons_zero, List.set_cons_succ]
                          refine wpAnyJ_take (i := 3) (oi := ?_) (v := ?_) ?_ (by kernel_rfl) ?_ ?_ (by assumption) ?_; rotate_left 2; (focus (simp only [List.getElem?_toArray, List.getElem?_cons_succ, List.getElem?_cons_zero]; rfl)); (focus (exact fun _ _ _ h => h)); first | (focus (refine Or.inl ⟨by rfl, ?_⟩; intro w hSw; (try dsimp only at hSw); have ca := keepc hSw Hca.out; (try dsimp only [Array.getD]); go_simp; (try with_reducible rfl))) | (focus (refine Or.inr ⟨by rfl, ?_⟩; rfl)) | fail "op 3"
                          try simp only [Act.put, List.setIfInBounds_toArray, List.set_cons_zero, List.set_cons_succ]
                          refine wpAnyJ_take (i := 4) (oi := ?_) (v := ?_) ?_ (by kernel_rfl) ?_ ?_ (by assumption) ?_; rotate_left 2; (focus (simp only [List.getElem?_toArray, List.getElem?_cons_succ, List.getElem?_cons_zero]; rfl)); (focus (exact fun _ _ _ h => h)); first | (focus (refine Or.inl ⟨by rfl, ?_⟩; intro w hSw; (try dsimp only at hSw); refine (exec_load_row 26 (.tmp 4) (by rfl) PB (by rfl) _ (ptC x).toArray (0, 0) _ (hSw.blk HM5.out.bp) Try.underlying26 rfl info_pt).trans ?_; with_reducible rfl)) | (focus (refine Or.inr ⟨by rfl, ?_⟩; rfl)) | fail "op 4"
                          try simp only [Act.put, List.setIfInBounds_toArray, List.set_cons_zero, List.set_cons_succ]
                          refine wpAnyJ_ready (rs := [5]) (by kernel_rfl) (by simp) (by rfl) ?_
                          refine AllReadyJ.cons (o := ?_) ?_ (fun K hK => ?_) AllReadyJ.nil; rotate_left; (focus (simp only [List.getElem?_toArray, List.getElem?_cons_succ, List.getElem?_cons_zero]; rfl))
                          go_simp
                          go_at_call 15
                          refine (rput_calls (F m) (stM n x H m) _ (rdRow_of_own ((HM5.out.hd.gr hHeld).row m hm8)) HQl.out x).mono ?_
                          rintro e w6 ⟨v6, rfl, ho6, hg6⟩
                          rw [HP.out] at ho6
                          obtain ⟨a6, c6, e6⟩ : ∃ a c, v6 = .slice a 1 c := own_slice ho6
                          subst e6
                          have HO6 := Lib.hid (own_mono ho6 hHeld.size)
                          clear ho6
                          refine hK.out _ _ (hHeld.tr hg6) (fun hHeld => ?_)
                          clear hK K
                          try simp only [Act.put, List.setIfInBounds_toArray, List.set_cons_zero, List.set_cons_succ]
                          refine wpAnyJ_take (i := 6) (oi := ?_) (v := ?_) ?_ (by kernel_rfl) ?_ ?_ (by assumption) ?_; rotate_left 2; (focus (simp only [List.getElem?_toArray, List.getElem?_cons_succ, List.getElem?_cons_zero]; rfl)); (focus (exact fun _ _ _ h => h)); first | (focus (refine Or.inl ⟨by rfl, ?_⟩; intro w hSw; (try dsimp only at hSw); (try dsimp only [Array.getD]); go_simp; (try with_reducible rfl))) | (focus (refine Or.inr ⟨by rfl, ?_⟩; rfl)) | fail "op 6"
                          try simp only [Act.put, List.setIfInBounds_toArray, List.set_cons_zero, List.set_cons_succ]
                          refine wpAnyJ_tail (i := 7) (o := ?_) (by kernel_rfl) (by decide) ?_ (fun K hK => ?_); rotate_left; (focus (simp only [List.getElem?_toArray, List.getElem?_cons_succ, List.getElem?_cons_zero]; rfl))
                          have c5 := keepc hHeld Hca.out
                          have f5 := keepf hHeld Hca.out Hfa.out
                          go_simp
                          refine hK.out _ _ ?_
                          clear hK K
                          try simp only [Act.put, List.setIfInBounds_toArray, List.set_cons_zero, List.set_cons_succ]
                          refine wpAny_done (by kernel_rfl) ?_ _
                          have HM6 := Lib.hid ((HM5.out.grow hHeld).put hmn hHeld HM5.out.hd HO6.out)
                          generalize w6.setCell ⟨A, m, none⟩ (.slice a6 1 c6) = w7 at *
                          clear hHeld HM5 HO6 Hca Hfa HP HQl
                          go_wp2_with fail
                          go_roundw
                          case rel => exact ⟨i + 1, _, _, by omega, by go_num, HM6, HS⟩
                          case measure => simp [intOf]; omega
                        · rw [decide_eq_false hb]
                          have eH : ackH (upA n) H m = H := if_neg hb
                          rw [eH] at hM5 HS
                          have HM5 := Lib.hid hM5
                          clear hM5 eH hb
                          go_wp2_with fail
                          go_roundw
                          case rel => exact ⟨i + 1, _, _, by omega, by go_num, HM5, HS⟩
                          case measure => simp [intOf]; omega
        · rw [decide_eq_false hok, show errOf false = 1 from rfl]
          clear hok
          go_wp2_with fail
          go_ret
          exact ⟨rfl, G3.out⟩
    · have h60' : ¬ (60 : Int) < p0.s.size := by omega
      rcases Hcs.out with ⟨b1, rfl⟩ | ⟨b1, b2, rfl⟩ | ⟨b1, b2, b3, rfl⟩ | ⟨b1, b2, b3, rfl⟩
      · go_wp2_with fail
        go_ret
        exact ⟨rfl, G2.out⟩
      · go_wp2_with fail
        go_ret
        exact ⟨rfl, G2.out⟩
      · go_wp2_with fail
        go_ret
        exact ⟨rfl, G2.out⟩
      · obtain ⟨x, ex⟩ : ∃ x, smallP p0 = x := ⟨_, rfl⟩
        have hs : smallP p0 = p0 := if_neg h60
        have BP3 := Lib.hid (show w2.heap[PB]? = some (.cells (ptC x).toArray 26 (0, 0)) from by rw [← ex, hs]; exact BP2.out)
        have BO3 := BO2
        have G3 := G2
        have SO3 := Lib.hid (show OB < w2.heap.size ∧ PB < w2.heap.size from ⟨SO2.out.1, SO2.out.2.1⟩)
        clear hs ex h60 BP2 BO2
        go_upto_region 12 with fail
        generalize w2 = w3 at *
        clear co0 co1 cp0 fp0 h60' hl0 hl1 G2 SO2
        have hm3 := hmt.out (by first | rfl | trivial)
        clear hmt Hcs b1 b2 b3
        go_wp2_with (refine wpList_load_rowg (by rfl) 26 (.tmp 4) rfl PB rfl _ (ptC x).toArray (0, 0) _ BP3.out Try.underlying26 rfl info_pt ?_)
        refine (rcheckp_calls x _).mono ?_
        rintro e w4 ⟨rfl, hg4⟩
        replace BP3 := Lib.hid (hg4.blk BP3.out)
        replace BO3 := Lib.hid (hg4.blk BO3.out)
        replace G3 := Lib.hid (G3.out.tr hg4)
        replace SO3 := Lib.hid (show OB < w4.heap.size ∧ PB < w4.heap.size from ⟨Nat.lt_of_lt_of_le SO3.out.1 hg4.size, Nat.lt_of_lt_of_le SO3.out.2 hg4.size⟩)
        clear hg4
        by_cases hok : PtOk x
        · rw [decide_eq_true hok, show errOf true = 0 from rfl]
          have hst : 1 ≤ x.c ∧ x.c ≤ 1099511627776 := ⟨hok.2.2.1, hok.2.2.2.1⟩
          clear hok
          obtain ⟨R, eR⟩ : ∃ R, w4.heap.size = R := ⟨_, rfl⟩
          have ER := Lib.hid eR
          clear eR
          go_wp2_with fail
          go_loopw [12, 13] (fun lv iv wr => ∃ i : Nat, i ≤ n ∧ iv = .int .i64 i ∧ Hid (wr.ownsRow R 3 1 lv (upA i).length (encI (upA i))) ∧ Hid (Gr w4 wr)) (fun _ iv _ => n - (intOf iv).toNat)
          case atStart => exact ⟨0, Nat.zero_le _, rfl, Lib.hid (World.ownsRow_nil _ _ _ _), Lib.hid Gr.rfl'⟩
          case round =>
            obtain ⟨i, hi, rfl, HO, HG⟩ := hrel
            have Hup := Lib.hid (up_succ i)
            have Hul := Lib.hid (up_len i)
            have HOb := HO
            rw [up_len] at HO
            by_cases hlt : i < n
            · have hlt' : (i : Int) < n := by omega
              obtain ⟨la, lc, hlv⟩ := own_slice HO.out
              subst hlv
              have HR4 := Lib.hid (show R ≤ wr.heap.size by rw [← ER.out]; exact HG.out.size)
              obtain ⟨i0, hinf, hz0, hz1, hz2⟩ := info_parts infoInt
              go_wp2_with (at_builtin; refine wpList_append_own _ rfl _ _ 27 rfl R 3 i0 _ 1 8 Try.underlying27 hinf hz0 hz1 hz2 rfl (by decide) _ _ _ rfl (HO.out.alloc _) ⟨wr.heap.size, 0, none⟩ 1 1 [.int .i64 (i : Int)] rfl rfl (World.news_of_block (heap_alloc_new wr _)) (by intro u hu; simp only [List.mem_cons, List.not_mem_nil, or_false] at hu; subst hu; rfl) (by unfold maxLen; omega) (by omega) (by have := HR4.out; simp; omega) ?_; intro v3 w5 hown5 hgrow5 _)
              have HO5 := Lib.hid (own_cast (n' := (upA (i + 1)).length) (xs' := encI (upA (i + 1))) hown5 (by rw [up_len]) (by rw [← Hup.out, encI_snoc]))
              have HG5 := Lib.hid (gr_gb (HG.out.tr (Gr.al Gr.rfl' _)) hgrow5 (fun j hj => by rw [ER.out]; exact (HO.out.lt j hj).1))
              clear hown5 hgrow5 HR4
              go_roundw
              case rel => exact ⟨i + 1, by omega, by go_num, HO5, HG5⟩
              case measure => simp [intOf]; omega
            · obtain rfl : n = i := by omega
              clear HO Hup Hul hlt hi
              replace BP3 := Lib.hid (HG.out.blk BP3.out)
              replace BO3 := Lib.hid (HG.out.blk BO3.out)
              replace G3 := Lib.hid (G3.out.tr HG.out)
              replace SO3 := Lib.hid (show OB < wr.heap.size ∧ PB < wr.heap.size from ⟨Nat.lt_of_lt_of_le SO3.out.1 HG.out.size, Nat.lt_of_lt_of_le SO3.out.2 HG.out.size⟩)
              clear HG ER
              go_wp2_with fail
              refine (newwrite_calls k _ (upA n) _ (rdRow_of_own HOb.out) (by rw [up_len]; omega)).mono ?_
              rintro e w6 ⟨p, nv, b, rfl, ha, _, hp, hb, hg⟩
              rw [nodes_up hn1.2, mx_one hk1.1] at ha
              have R6 := Lib.hid ((rdRow_of_own HOb.out).gr hg)
              have HW6 := Lib.hid ha
              have HW6b := Lib.hid (show w.heap.size ≤ b ∧ b < w6.heap.size from ⟨Nat.le_trans G3.out.size hb, ha.map.lt b rfl⟩)
              replace BP3 := Lib.hid (hg.blk BP3.out)
              replace BO3 := Lib.hid (hg.blk BO3.out)
              replace G3 := Lib.hid (G3.out.tr hg)
              replace SO3 := Lib.hid (show OB < w6.heap.size ∧ PB < w6.heap.size from ⟨Nat.lt_of_lt_of_le SO3.out.1 hg.size, Nat.lt_of_lt_of_le SO3.out.2 hg.size⟩)
              clear ha hp hb hg HOb
              go_wp2_with fail
              refine (newread_calls r _ (upA n) _ R6.out (by rw [up_len]; omega)).mono ?_
              rintro e w7 ⟨p2, nv2, b2, g2, rfl, ha, hp, hb, hgg, hg⟩
              rw [nodes_up hn1.2, mx_one hr1.1] at ha
              have HW7 := Lib.hid (HW6.out.gr hg)
              have HR7 := Lib.hid ha
              have HN7 := Lib.hid (show b ≠ b2 ∧ b ≠ g2 ∧ w.heap.size ≤ b ∧ w.heap.size ≤ b2 ∧ w.heap.size ≤ g2 from by have := HW6b.out; have := G3.out.size; omega)
              have HS7 := Lib.hid (show b2 < w7.heap.size ∧ g2 < w7.heap.size ∧ b < w7.heap.size ∧ p < w7.heap.size ∧ p2 < w7.heap.size from ⟨ha.wr.map.lt b2 rfl, ha.gt.got.lt g2 rfl, HW7.out.map.lt b rfl, World.block_lt_of_cell? _ _ HW7.out.c0, World.block_lt_of_cell? _ _ ha.wr.c0⟩)
              replace BP3 := Lib.hid (hg.blk BP3.out)
              replace BO3 := Lib.hid (hg.blk BO3.out)
              replace G3 := Lib.hid (G3.out.tr hg)
              replace SO3 := Lib.hid (show OB < w7.heap.size ∧ PB < w7.heap.size from ⟨Nat.lt_of_lt_of_le SO3.out.1 hg.size, Nat.lt_of_lt_of_le SO3.out.2 hg.size⟩)
              clear ha hp hb hgg hg R6 HW6 HW6b
              go_upto_region 24 with (refine wpList_load_rowg (by rfl) 26 (.tmp 4) rfl PB rfl _ (ptC x).toArray (0, 0) _ BP3.out Try.underlying26 rfl info_pt ?_)
              obtain ⟨w8, e8, g8, b8, s8⟩ := al_out w7 (.cells #[.string x.s, .int .i64 x.t, .int .i64 x.v, .int .i64 x.c, .int .i64 x.st, .int .i64 x.q] 26)
              rw [e8]
              obtain ⟨EB, eE⟩ : ∃ A, w7.heap.size = A := ⟨_, rfl⟩
              rw [eE] at b8 ⊢
              have cp3 := (cell_of_row _ _ 3 _ _ _ (g8.blk BP3.out)).trans (rfl : _ = some (Value.int .i64 x.c))
              have ce3 := (cell_of_row _ _ 3 _ _ _ b8).trans (rfl : _ = some (Value.int .i64 x.c))
              have fe3 := frozen_of_row w8 EB 3 _ _ b8
              have ce2 := (cell_of_row _ _ 2 _ _ _ b8).trans (rfl : _ = some (Value.int .i64 x.v))
              have fe2 := frozen_of_row w8 EB 2 _ _ b8
              have B8 := Lib.hid b8
              have G8 := Lib.hid g8
              have EE := Lib.hid eE
              clear e8 g8 b8 s8 eE
              go_upto_region 26 with fail
              have h1 := heap_setCell_same w8 EB 3 _ _ (.int .i64 (x.c - 1)) B8.out
              have h2 := heap_setCell_same (w8.setCell ⟨EB, 3, none⟩ (.int .i64 (x.c - 1))) EB 2 _ _ (.int .i64 0) h1
              have BE := Lib.hid (show ((w8.setCell ⟨EB, 3, none⟩ (.int .i64 (x.c - 1))).setCell ⟨EB, 2, none⟩ (.int .i64 0)).heap[EB]? = some (.cells (ptC (eldP x)).toArray 26 (0, 0)) from by rw [h2]; rfl)
              have G9 := Lib.hid (show Gr w7 ((w8.setCell ⟨EB, 3, none⟩ (.int .i64 (x.c - 1))).setCell ⟨EB, 2, none⟩ (.int .i64 0)) from Gr.sc (Gr.sc G8.out (by rw [EE.out]; exact Nat.le_refl _) _) (by rw [EE.out]; exact Nat.le_refl _) _)
              generalize (w8.setCell ⟨EB, 3, none⟩ (.int .i64 (x.c - 1))).setCell ⟨EB, 2, none⟩ (.int .i64 0) = w9 at *
              clear h1 h2 cp3 ce3 fe3 ce2 fe2 B8 G8
              go_wp2_with fail
              obtain ⟨w10, e10, g10, b10, s10⟩ := al_out w9 (.cells #[.slice none 0 0, .slice none 0 0, .slice none 0 0, .slice none 0 0, .slice none 0 0, .slice none 0 0, .slice none 0 0, .slice none 0 0] 38)
              rw [e10]
              obtain ⟨A, eA⟩ : ∃ A, w9.heap.size = A := ⟨_, rfl⟩
              rw [eA] at b10 s10 ⊢
              have HD0 := Lib.hid ((hd8_new (N := A + 1) b10 (fun m hm => by
                have : m = 0 ∨ m = 1 ∨ m = 2 ∨ m = 3 ∨ m = 4 ∨ m = 5 ∨ m = 6 ∨ m = 7 := by omega
                rcases this with rfl | rfl | rfl | rfl | rfl | rfl | rfl | rfl <;> rfl) (by omega) (by omega)).congr (stI_zero x).symm)
              have G10 := Lib.hid g10
              have HA7 := Lib.hid (show w7.heap.size ≤ A by rw [← eA]; exact G9.out.size)
              have EA := Lib.hid eA
              clear e10 g10 b10 s10 eA
              go_loopw [18] (fun iv wr => ∃ (i : Nat) (F : Nat → Value), i ≤ n ∧ iv = .int .i64 i ∧ Hid (Hd8 wr A (A + 1) (stI x i) F) ∧ Hid (Gr w9 wr)) (fun iv _ => n - (intOf iv).toNat)
              case atStart => exact ⟨0, _, Nat.zero_le _, rfl, HD0, G10⟩
              case round =>
                obtain ⟨i, F, hi, rfl, HD, HG⟩ := hrel
                clear HD0 G10
                by_cases hlt : i < n
                · have hlt' : (i : Int) < n := by omega
                  have hi8 : i < 8 := by omega
                  have HBE := Lib.hid (HG.out.blk BE.out)
                  have ce := (cell_of_row _ _ 3 _ _ _ HBE.out).trans (rfl : _ = some (Value.int .i64 (x.c - 1)))
                  by_cases hE : 1 ≤ x.c - 1
                  · have hE2 : 1 < x.c := by omega
                    have hi8i : (i : Int) < 8 := by omega
                    have ca : (wr.alloc (.cells #[.string (eldP x).s, .int .i64 (eldP x).t, .int .i64 (eldP x).v, .int .i64 (eldP x).c, .int .i64 (eldP x).st, .int .i64 (eldP x).q] 26)).cell? ⟨A, i, none⟩ = some (F i) := keepc (Gr.al Gr.rfl' _) (HD.out.arr i hi8).1
                    have fa : (wr.alloc (.cells #[.string (eldP x).s, .int .i64 (eldP x).t, .int .i64 (eldP x).v, .int .i64 (eldP x).c, .int .i64 (eldP x).st, .int .i64 (eldP x).q] 26)).frozen? ⟨A, i, none⟩ = false := keepf (Gr.al Gr.rfl' _) (HD.out.arr i hi8).1 (HD.out.arr i hi8).2
                    have HP := Lib.hid (((HD.out.gr (Gr.al (Gr.rfl' (w := wr)) (.cells (ptC (eldP x)).toArray 26))).put hi8 (own_lit wr (A + 1) (eldP x) HD.out.nw) (fun j kk hj hne hk z => by
                      have := (HD.out.own_lt hj hk).2
                      injection z with z
                      simp only at z
                      omega)).congr (stI_put hE i))
                    have HGn := Lib.hid (Gr.sc (HG.out.tr (Gr.al (Gr.rfl' (w := wr)) (.cells (ptC (eldP x)).toArray 26))) (p := ⟨A, i, none⟩) (by rw [EA.out]; exact Nat.le_refl _) (.slice (some ⟨wr.heap.size, 0, none⟩) 1 1))
                    go_wp2_with (refine wpList_load_rowg (by rfl) 26 (.tmp 16) rfl EB rfl _ (ptC (eldP x)).toArray (0, 0) _ HBE.out Try.underlying26 rfl info_pt ?_)
                    go_roundw
                    case rel => exact ⟨i + 1, _, by omega, by go_num, HP, HGn⟩
                    case measure => simp [intOf]; omega
                  · have hE2 : ¬ 1 < x.c := by omega
                    have HD2 := Lib.hid (HD.out.congr (stI_skip hE i))
                    go_wp2_with fail
                    go_roundw
                    case rel => exact ⟨i + 1, F, by omega, by go_num, HD2, HG⟩
                    case measure => simp [intOf]; omega
                · obtain rfl : n = i := by omega
                  clear hlt hi
                  have HM := Lib.hid (show MW w wr p b p2 b2 g2 k r n x [] [] [] A (A + 1) PB OB #[.slice a0 A0.length c0, .slice a1 A1.length c1] (fun j => A ≤ j) F from by
                    have hA := HA7.out
                    obtain ⟨s1, s2, s3, s4, s5⟩ := HS7.out
                    obtain ⟨t1, t2, t3, t4, t5⟩ := HN7.out
                    have hg := G9.out.tr HG.out
                    refine ⟨⟨nv, HW7.out.gr hg, by omega, by omega, fun a m c e h0 => by have := row_below (by decide) HW7.out.row a m c e h0; omega⟩, ?_, HD.out.congr (stM_nil n x), G3.out.tr hg, hg.blk BP3.out, hg.blk BO3.out, t1, t2, t3, t4, t5, Nat.le_trans G3.out.size hA, by have := SO3.out.2; omega, by have := SO3.out.1; omega, hn1.2⟩
                    rw [glO_nil]
                    exact ⟨nv2, _, HR7.out.gr hg, by omega, by omega, by omega, fun a m c e h0 => by have := row_below (by decide) HR7.out.wr.row a m c e h0; omega, fun kk a m c e h0 => by cases e⟩)
                  have HA0 := Lib.hid (AckM.zero n A0.length)
                  have GW := Lib.hid (G3.out.tr (G9.out.tr HG.out))
                  clear HD HG HW7 HR7 HN7 HS7 BP3 BO3 G3 SO3 BE G9 HA7 EA EE
                  go_wp2_with fail
                  go_loopw [19] (fun iv wr => ∃ (i : Nat) (H : List Int) (F : Nat → Value), i ≤ A0.length + n ∧ iv = .int .i64 i ∧ Hid (MW w wr p b p2 b2 g2 k r n x H H [] A (A + 1) PB OB #[.slice a0 A0.length c0, .slice a1 A1.length c1] (fun j => A ≤ j) F) ∧ Hid (AckM n H A0.length i)) (fun iv _ => A0.length + n - (intOf iv).toNat)
                  case atStart => exact ⟨0, [], F, Nat.zero_le _, rfl, HM, HA0⟩
                  case round =>
                    obtain ⟨i, H, F, hi, rfl, HQ, HA⟩ := hrel
                    clear HM HA0 GW
                    have hHl := HA.out.len_le
                    by_cases hd : k ≤ H.length
                    · have hdn : decide ((0 : Int) < k ∧ (k : Int) ≤ (H.length : Int)) = true := decide_eq_true (by omega)
                      have Hdn := Lib.hid hdn
                      clear hdn
                      go_wp2_with fail
                      refine (HQ.out.wr.done).mono ?_
                      rintro e w5 ⟨rfl, hg5⟩
                      rw [Hdn.out]
                      replace HQ := Lib.hid (HQ.out.grow hg5)
                      have HX := Lib.hid HQ.out.turn
                      have HJ0 := Lib.hid (AckM.zero n A1.length)
                      clear hg5 Hdn HQ
                      go_wp2_with fail
                      go_loopw [22] (fun iv wr => ∃ (i : Nat) (J : List Int), i ≤ A1.length + n ∧ iv = .int .i64 i ∧ Hid (MW w wr p b p2 b2 g2 k r n x H H J A (A + 1) PB OB #[.slice a0 A0.length c0, .slice a1 A1.length c1] (XF A F) F) ∧ Hid (AckM n J A1.length i)) (fun iv _ => A1.length + n - (intOf iv).toNat)
                      case atStart => exact ⟨0, [], Nat.zero_le _, rfl, HX, HJ0⟩
                      case round =>
                        obtain ⟨i, J, hi, rfl, HQ, HJ⟩ := hrel
                        clear HX HJ0
                        have hJl := HJ.out.len_le
                        by_cases hd2 : r ≤ J.length
                        · have hdn : decide ((0 : Int) < r ∧ (r : Int) ≤ (J.length : Int)) = true := decide_eq_true (by omega)
                          have Hdn := Lib.hid hdn
                          clear hdn
                          go_wp2_with fail
                          refine (HQ.out.rd.done).mono ?_
                          rintro e w5 ⟨rfl, hg5⟩
                          rw [Hdn.out]
                          replace HQ := Lib.hid (HQ.out.grow hg5)
                          clear hg5 Hdn
                          have Hall := Lib.hid (meets_all (p := x) HA.out.ok HJ.out.ok (by omega))
                          have Hrep := Lib.hid (fun (i : Nat) (hi : i < n) => meets_rep (p := x) HA.out.ok HJ.out.ok (by omega) hi)
                          have Hrl := Lib.hid (fun (i : Int) => rep_len1 (p := x) HA.out.ok HJ.out.ok (by omega) i)
                          have Hun := Lib.hid (show (upA n).length ≤ 10 by rw [up_len]; omega)
                          obtain ⟨y, ey⟩ : ∃ y, x = y := ⟨_, rfl⟩
                          have Ey := Lib.hid ey
                          have Hne := Lib.hid (show decide (y ≠ x) = false from decide_eq_false (fun z => z ey.symm))
                          have Hyx := Lib.hid (show decide (y = x) = true from decide_eq_true ey.symm)
                          clear ey
                          go_wp2_with fail
                          refine (HQ.out.rd.merged Hun.out (glM_len n x H J)).mono ?_
                          rintro e w6 ⟨v6, rfl, ho6, hg6⟩
                          rw [Hall.out] at ho6
                          obtain ⟨a6, c6, e6⟩ : ∃ a c, v6 = .slice a 1 c := own_slice ho6
                          subst e6
                          replace HQ := Lib.hid (HQ.out.grow hg6)
                          obtain ⟨bg, og, _, e1, _, hrg⟩ := rd_range ptC 6 (fun _ => rfl) (rdRow_of_own ho6) (Nat.succ_pos 0)
                          replace e1 := (Value.slice.inj e1).1
                          subst e1
                          have Hrg := Lib.hid (show w6.rangeAt bg og (ptC y) by have := hrg 0 (Nat.succ_pos 0); rw [← Ey.out]; simpa using this)
                          clear ho6 hg6 hrg
                          go_upto_region 54 with fail
                          refine region_start (S := fun w' => Gr w6 w') (by kernel_rfl) (by exact Gr.dr Gr.rfl') (fun wz hz0 hHeld => ?_)
                          simp only [List.size_toArray, List.length_cons, List.length_nil, Nat.reduceAdd]
                          refine wpAnyH_take (i := 0) (oi := ?_) (v := ?_) ?_ (by kernel_rfl) (by kernel_rfl) (by kernel_rfl) ?_ ?_ (by assumption) ?_; rotate_left 2; (focus (simp only [List.getElem?_toArray, List.getElem?_cons_zero]; rfl)); (focus (exact fun _ _ _ h => h)); first | (focus (refine Or.inl ⟨by rfl, ?_⟩; intro w hSw; (try dsimp only at hSw); (try dsimp only [Array.getD]); go_simp; (try with_reducible rfl))) | (focus (refine Or.inr ⟨by rfl, ?_⟩; rfl)) | fail "op 0"
                          try simp only [Act.put, List.setIfInBounds_toArray, List.set_cons_zero, List.set_cons_succ]
                          refine wpAnyH_take (i := 1) (oi := ?_) (v := ?_) ?_ (by kernel_rfl) (by kernel_rfl) (by kernel_rfl) ?_ ?_ (by assumption) ?_; rotate_left 2; (focus (simp only [List.getElem?_toArray, List.getElem?_cons_succ, List.getElem?_cons_zero]; rfl)); (focus (exact fun _ _ _ h => h)); first | (focus (refine Or.inl ⟨by rfl, ?_⟩; intro w hSw; (try dsimp only at hSw); skip; (try dsimp only [Array.getD]); go_simp; (try with_reducible rfl))) | (focus (refine Or.inr ⟨by rfl, ?_⟩; rfl)) | fail "op 1"
                          try simp only [Act.put, List.setIfInBounds_toArray, List.set_cons_zero, List.set_cons_succ]
                          refine wpAnyH_take (i := 2) (oi := ?_) (v := ?_) ?_ (by kernel_rfl) (by kernel_rfl) (by kernel_rfl) ?_ ?_ (by assumption) ?_; rotate_left 2; (focus (simp only [List.getElem?_toArray, List.getElem?_cons_succ, List.getElem?_cons_zero]; rfl)); (focus (exact fun _ _ _ h => h)); first | (focus (refine Or.inl ⟨by rfl, ?_⟩; intro w hSw; (try dsimp only at hSw); (try dsimp only [Array.getD]); go_simp; (try with_reducible rfl))) | (focus (refine Or.inr ⟨by rfl, ?_⟩; rfl)) | fail "op 2"
                          try simp only [Act.put, List.setIfInBounds_toArray, List.set_cons_zero, List.set_cons_succ]
                          refine wpAnyH_take (i := 3) (oi := ?_) (v := ?_) ?_ (by kernel_rfl) (by kernel_rfl) (by kernel_rfl) ?_ ?_ (by assumption) ?_; rotate_left 2; (focus (simp only [List.getElem?_toArray, List.getElem?_cons_succ, List.getElem?_cons_zero]; rfl)); (focus (exact fun _ _ _ h => h)); first | (focus (refine Or.inl ⟨by rfl, ?_⟩; intro w hSw; (try dsimp only at hSw); (try dsimp only [Array.getD]); go_simp; (try with_reducible rfl))) | (focus (refine Or.inr ⟨by rfl, ?_⟩; rfl)) | fail "op 3"
                          try simp only [Act.put, List.setIfInBounds_toArray, List.set_cons_zero, List.set_cons_succ]
                          refine wpAnyH_take (i := 4) (oi := ?_) (v := ?_) ?_ (by kernel_rfl) (by kernel_rfl) (by kernel_rfl) ?_ ?_ (by assumption) ?_; rotate_left 2; (focus (simp only [List.getElem?_toArray, List.getElem?_cons_succ, List.getElem?_cons_zero]; rfl)); (focus (exact fun _ _ _ h => h)); first | (focus (refine Or.inl ⟨by rfl, ?_⟩; intro w hSw; (try dsimp only at hSw); (try dsimp only [Array.getD]); go_simp; (try with_reducible rfl))) | (focus (refine Or.inr ⟨by rfl, ?_⟩; rfl)) | fail "op 4"
                          try simp only [Act.put, List.setIfInBounds_toArray, List.set_cons_zero, List.set_cons_succ]
                          refine wpAnyH_take (i := 5) (oi := ?_) (v := ?_) ?_ (by kernel_rfl) (by kernel_rfl) (by kernel_rfl) ?_ ?_ (by assumption) ?_; rotate_left 2; (focus (simp only [List.getElem?_toArray, List.getElem?_cons_succ, List.getElem?_cons_zero]; rfl)); (focus (exact fun _ _ _ h => h)); first | (focus (refine Or.inl ⟨by rfl, ?_⟩; intro w hSw; (try dsimp only at hSw); (try dsimp only [Array.getD]); go_simp; (try with_reducible rfl))) | (focus (refine Or.inr ⟨by rfl, ?_⟩; rfl)) | fail "op 5"
                          try simp only [Act.put, List.setIfInBounds_toArray, List.set_cons_zero, List.set_cons_succ]
                          refine wpAnyH_take (i := 6) (oi := ?_) (v := ?_) ?_ (by kernel_rfl) (by kernel_rfl) (by kernel_rfl) ?_ ?_ (by assumption) ?_; rotate_left 2; (focus (simp only [List.getElem?_toArray, List.getElem?_cons_succ, List.getElem?_cons_zero]; rfl)); (focus (exact fun _ _ _ h => h)); first | (focus (refine Or.inl ⟨by rfl, ?_⟩; intro w hSw; (try dsimp only at hSw); refine (exec_load_mid 26 (.tmp 202) (by rfl) bg og (by rfl) (ptC y) _ (rangeAt_gr hSw Hrg.out) Try.underlying26 rfl info_pt).trans ?_; with_reducible rfl)) | (focus (refine Or.inr ⟨by rfl, ?_⟩; rfl)) | fail "op 6"
                          try simp only [Act.put, List.setIfInBounds_toArray, List.set_cons_zero, List.set_cons_succ]
                          refine wpAnyH_take (i := 7) (oi := ?_) (v := ?_) ?_ (by kernel_rfl) (by kernel_rfl) (by kernel_rfl) ?_ ?_ (by assumption) ?_; rotate_left 2; (focus (simp only [List.getElem?_toArray, List.getElem?_cons_succ, List.getElem?_cons_zero]; rfl)); (focus (exact fun _ _ _ h => h)); first | (focus (refine Or.inl ⟨by rfl, ?_⟩; intro w hSw; (try dsimp only at hSw); refine (exec_load_row 26 (.tmp 4) (by rfl) PB (by rfl) _ (ptC x).toArray (0, 0) _ (hSw.blk HQ.out.bp) Try.underlying26 rfl info_pt).trans ?_; with_reducible rfl)) | (focus (refine Or.inr ⟨by rfl, ?_⟩; rfl)) | fail "op 7"
                          try simp only [Act.put, List.setIfInBounds_toArray, List.set_cons_zero, List.set_cons_succ]
                          refine wpAnyH_take (i := 8) (oi := ?_) (v := ?_) ?_ (by kernel_rfl) (by kernel_rfl) (by kernel_rfl) ?_ ?_ (by assumption) ?_; rotate_left 2; (focus (simp only [List.getElem?_toArray, List.getElem?_cons_succ, List.getElem?_cons_zero]; rfl)); (focus (exact fun _ _ _ h => h)); first | (focus (refine Or.inl ⟨by rfl, ?_⟩; intro w hSw; (try dsimp only at hSw); (try dsimp only [Array.getD]); go_simp; refine (ne_pt y x _).trans ?_; with_reducible rfl)) | (focus (refine Or.inr ⟨by rfl, ?_⟩; rfl)) | fail "op 8"
                          try simp only [Act.put, List.setIfInBounds_toArray, List.set_cons_zero, List.set_cons_succ]
                          refine wpAnyH_take (i := 9) (oi := ?_) (v := ?_) ?_ (by kernel_rfl) (by kernel_rfl) (by kernel_rfl) ?_ ?_ (by assumption) ?_; rotate_left 2; (focus (simp only [List.getElem?_toArray, List.getElem?_cons_succ, List.getElem?_cons_zero]; rfl)); (focus (exact fun _ _ _ h => h)); first | (focus (refine Or.inl ⟨by rfl, ?_⟩; intro w hSw; (try dsimp only at hSw); (try dsimp only [Array.getD]); go_simp; (try with_reducible rfl))) | (focus (refine Or.inr ⟨by rfl, ?_⟩; rfl)) | fail "op 9"
                          try simp only [Act.put, List.setIfInBounds_toArray, List.set_cons_zero, List.set_cons_succ]
                          refine wpAnyH_done (by kernel_rfl) ?_ _
                          have HV := Lib.hid ((HQ.out.grow hHeld).last)
                          clear hHeld hz0
                          (try rw [Hne.out])
                          (try rw [show (!decide (y = x)) = false by rw [Hyx.out]; rfl])
                          clear HQ Hrg
                          go_wp2_with fail
                          go_loopw [25] (fun iv wr => ∃ (i : Nat) (F' : Nat → Value), i ≤ n ∧ iv = .int .i64 i ∧ Hid (MV w wr p2 b2 g2 r n x H J A (A + 1) PB F F' i)) (fun iv _ => n - (intOf iv).toNat)
                          case atStart => exact ⟨0, F, Nat.zero_le _, rfl, HV⟩
                          case round =>
                            obtain ⟨i, F', hi, rfl, HM⟩ := hrel
                            clear HV
                            by_cases hlt : i < n
                            · have hlt' : (i : Int) < n := by omega
                              have hi8 : i < 8 := by omega
                              have hi8i : (i : Int) < 8 := by omega
                              have Hca := Lib.hid (HM.out.hd.arr i hi8).1
                              have Hfa := Lib.hid (HM.out.hd.arr i hi8).2
                              have hrow := HM.out.hd.row i hi8
                              simp only [if_neg (Nat.lt_irrefl _)] at hrow
                              have Hrow := Lib.hid hrow
                              have HnA := Lib.hid (show ¬ (F' i).ownBlock = some A from fun z => by have := (HM.out.hd.own_lt hi8 z).1; omega)
                              have Hx := Lib.hid (fun j (hj : (F' i).ownBlock = some j) => show A ≤ j ∧ XF A F j from ⟨by have := (HM.out.hd.own_lt hi8 hj).1; omega, .inr ⟨i, hi8, by rw [← HM.out.old i (Nat.le_refl _)]; exact hj⟩⟩)
                              have HNW := Lib.hid HM.out.hd.nw
                              have hl1 := stM_len n x H i
                              have hl2 := Hrl.out (i : Int)
                              have HI := Lib.hid (show I64 (i : Int) by unfold I64; omega)
                              have HZ := Lib.hid (Hrep.out i hlt)
                              have Hzl := Lib.hid (show (stM n x H i ++ repL (upA n) (glO (stM n x H) J) i).length ≤ 100000 by rw [List.length_append]; omega)
                              have Hl1 := Lib.hid (show (stM n x H i).length ≤ 1000 by omega)
                              have Hl2 := Lib.hid (show (repL (upA n) (glO (stM n x H) J) i).length ≤ 1000 by omega)
                              clear hrow hl1 hl2
                              go_upto_region 59 with fail
                              refine region_startJ (S := fun w' => Bt (fun j => (F' i).ownBlock = some j) wr w') 10 (by kernel_rfl) (by exact Bt.of (Gr.dr Gr.rfl')) (fun wz hz0 hHeld => ?_)
                              simp only [List.size_toArray, List.length_cons, List.length_nil, Nat.reduceAdd]
                              refine wpAnyJ_take (i := 0) (oi := ?_) (v := ?_) ?_ (by kernel_rfl) ?_ ?_ (by assumption) ?_; rotate_left 2; (focus (simp only [List.getElem?_toArray, List.getElem?_cons_zero]; rfl)); (focus (exact fun _ _ _ h => h)); first | (focus (refine Or.inl ⟨by rfl, ?_⟩; intro w hSw; (try dsimp only at hSw); (try dsimp only [Array.getD]); go_simp; (try with_reducible rfl))) | (focus (refine Or.inr ⟨by rfl, ?_⟩; rfl)) | fail "op 0"
                              try simp only [Act.put, List.setIfInBounds_toArray, List.set_cons_zero, List.set_cons_succ]
                              refine wpAnyJ_take (i := 1) (oi := ?_) (v := ?_) ?_ (by kernel_rfl) ?_ ?_ (by assumption) ?_; rotate_left 2; (focus (simp only [List.getElem?_toArray, List.getElem?_cons_succ, List.getElem?_cons_zero]; rfl)); (focus (exact fun _ _ _ h => h)); first | (focus (refine Or.inl ⟨by rfl, ?_⟩; intro w hSw; (try dsimp only at hSw); (try dsimp only [Array.getD]); go_simp; (try with_reducible rfl))) | (focus (refine Or.inr ⟨by rfl, ?_⟩; rfl)) | fail "op 1"
                              try simp only [Act.put, List.setIfInBounds_toArray, List.set_cons_zero, List.set_cons_succ]
                              refine wpAnyJ_take (i := 2) (oi := ?_) (v := ?_) ?_ (by kernel_rfl) ?_ ?_ (by assumption) ?_; rotate_left 2; (focus (simp only [List.getElem?_toArray, List.getElem?_cons_succ, List.getElem?_cons_zero]; rfl)); (focus (exact fun _ _ _ h => h)); first | (focus (refine Or.inl ⟨by rfl, ?_⟩; intro w hSw; (try dsimp only at hSw); (try dsimp only [Array.getD]); go_simp; (try with_reducible rfl))) | (focus (refine Or.inr ⟨by rfl, ?_⟩; rfl)) | fail "op 2"
                              try simp only [Act.put, List.setIfInBounds_toArray, List.set_cons_zero, List.set_cons_succ]
                              refine wpAnyJ_take (i := 3) (oi := ?_) (v := ?_) ?_ (by kernel_rfl) ?_ ?_ (by assumption) ?_; rotate_left 2; (focus (simp only [List.getElem?_toArray, List.getElem?_cons_succ, List.getElem?_cons_zero]; rfl)); (focus (exact fun _ _ _ h => h)); first | (focus (refine Or.inl ⟨by rfl, ?_⟩; intro w hSw; (try dsimp only at hSw); have ca := hSw.cell (p := ⟨A, i, none⟩) HnA.out Hca.out; (try dsimp only [Array.getD]); go_simp; (try with_reducible rfl))) | (focus (refine Or.inr ⟨by rfl, ?_⟩; rfl)) | fail "op 3"
                              try simp only [Act.put, List.setIfInBounds_toArray, List.set_cons_zero, List.set_cons_succ]
                              refine wpAnyJ_take (i := 4) (oi := ?_) (v := ?_) ?_ (by kernel_rfl) ?_ ?_ (by assumption) ?_; rotate_left 2; (focus (simp only [List.getElem?_toArray, List.getElem?_cons_succ, List.getElem?_cons_zero]; rfl)); (focus (exact fun _ _ _ h => h)); first | (focus (refine Or.inl ⟨by rfl, ?_⟩; intro w hSw; (try dsimp only at hSw); (try dsimp only [Array.getD]); go_simp; (try with_reducible rfl))) | (focus (refine Or.inr ⟨by rfl, ?_⟩; rfl)) | fail "op 4"
                              try simp only [Act.put, List.setIfInBounds_toArray, List.set_cons_zero, List.set_cons_succ]
                              refine wpAnyJ_take (i := 5) (oi := ?_) (v := ?_) ?_ (by kernel_rfl) ?_ ?_ (by assumption) ?_; rotate_left 2; (focus (simp only [List.getElem?_toArray, List.getElem?_cons_succ, List.getElem?_cons_zero]; rfl)); (focus (exact fun _ _ _ h => h)); first | (focus (refine Or.inl ⟨by rfl, ?_⟩; intro w hSw; (try dsimp only at hSw); (try dsimp only [Array.getD]); go_simp; (try with_reducible rfl))) | (focus (refine Or.inr ⟨by rfl, ?_⟩; rfl)) | fail "op 5"
                              try simp only [Act.put, List.setIfInBounds_toArray, List.set_cons_zero, List.set_cons_succ]
                              refine wpAnyJ_ready (rs := [6]) (by kernel_rfl) (by simp) (by rfl) ?_
                              refine AllReadyJ.cons (o := ?_) ?_ (fun K hK => ?_) AllReadyJ.nil; rotate_left; (focus (simp only [List.getElem?_toArray, List.getElem?_cons_succ, List.getElem?_cons_zero]; rfl))
                              go_simp
                              go_at_call 20
                              refine ((HM.out.rd.far hHeld Hx.out).repair Hun.out (glM_len n x H J) (i : Int) HI.out).mono ?_
                              rintro e w6 ⟨v6, rfl, ho6, hg6⟩
                              have R6 := Lib.hid (rdRow_of_own ho6)
                              have G6 := Lib.hid (hz0.tr hg6)
                              clear ho6
                              refine hK.out _ _ (hHeld.tr (.of hg6)) (fun hHeld => ?_)
                              clear hK K
                              try simp only [Act.put, List.setIfInBounds_toArray, List.set_cons_zero, List.set_cons_succ]
                              refine wpAnyJ_ready (rs := [7]) (by kernel_rfl) (by simp) (by rfl) ?_
                              refine AllReadyJ.cons (o := ?_) ?_ (fun K hK => ?_) AllReadyJ.nil; rotate_left; (focus (simp only [List.getElem?_toArray, List.getElem?_cons_succ, List.getElem?_cons_zero]; rfl))
                              refine wp_join_pt (.tmp 215) (.tmp 218) rfl (A + 1) (F' i) (stM n x H i) rfl (own_gr Hrow.out G6.out) (repL (upA n) (glO (stM n x H) J) i) v6 rfl R6.out Hl1.out Hl2.out (Nat.le_trans HNW.out G6.out.size) (fun v7 w7 ho7 hg7 => ?_)
                              have hbt7 : Bt (fun b => (F' i).ownBlock = some b) w6 w7 := ⟨hg7.os, hg7.tape, hg7.output, hg7.size, fun b hb hne => hg7.block b hb (fun e => hne e.symm)⟩
                              have HB7 := Lib.hid ((Bt.of G6.out).tr hbt7)
                              have R7 := Lib.hid (rdRow_of_own ho7)
                              clear ho7 hg7
                              refine hK.out _ _ (hHeld.tr hbt7) (fun hHeld => ?_)
                              clear hK K
                              try simp only [Act.put, List.setIfInBounds_toArray, List.set_cons_zero, List.set_cons_succ]
                              refine wpAnyJ_ready (rs := [8]) (by kernel_rfl) (by simp) (by rfl) ?_
                              refine AllReadyJ.cons (o := ?_) ?_ (fun K hK => ?_) AllReadyJ.nil; rotate_left; (focus (simp only [List.getElem?_toArray, List.getElem?_cons_succ, List.getElem?_cons_zero]; rfl))
                              go_simp
                              go_at_call 19
                              refine (rsort_calls v7 _ _ R7.out Hzl.out).mono ?_
                              rintro e w8 ⟨v8, rfl, ho8, hg8⟩
                              rw [HZ.out] at ho8
                              obtain ⟨a8, c8, e8⟩ : ∃ a c, v8 = .slice a 1 c := own_slice ho8
                              subst e8
                              have HO8 := Lib.hid (own_mono ho8 HB7.out.size)
                              have G8 := Lib.hid hg8
                              clear ho8
                              refine hK.out _ _ (hHeld.tr (.of hg8)) (fun hHeld => ?_)
                              clear hK K
                              try simp only [Act.put, List.setIfInBounds_toArray, List.set_cons_zero, List.set_cons_succ]
                              refine wpAnyJ_take (i := 9) (oi := ?_) (v := ?_) ?_ (by kernel_rfl) ?_ ?_ (by assumption) ?_; rotate_left 2; (focus (simp only [List.getElem?_toArray, List.getElem?_cons_succ, List.getElem?_cons_zero]; rfl)); (focus (exact fun _ _ _ h => h)); first | (focus (refine Or.inl ⟨by rfl, ?_⟩; intro w hSw; (try dsimp only at hSw); (try dsimp only [Array.getD]); go_simp; (try with_reducible rfl))) | (focus (refine Or.inr ⟨by rfl, ?_⟩; rfl)) | fail "op 9"
                              try simp only [Act.put, List.setIfInBounds_toArray, List.set_cons_zero, List.set_cons_succ]
                              refine wpAnyJ_tail (i := 10) (o := ?_) (by kernel_rfl) (by decide) ?_ (fun K hK => ?_); rotate_left; (focus (simp only [List.getElem?_toArray, List.getElem?_cons_succ, List.getElem?_cons_zero]; rfl))
                              have c5 := hHeld.cell (p := ⟨A, i, none⟩) HnA.out Hca.out
                              have f5 := frozen_bt hHeld (p := ⟨A, i, none⟩) HnA.out Hca.out Hfa.out
                              go_simp
                              refine hK.out _ _ ?_
                              clear hK K
                              try simp only [Act.put, List.setIfInBounds_toArray, List.set_cons_zero, List.set_cons_succ]
                              refine wpAny_done (by kernel_rfl) ?_ _
                              have HM9 := Lib.hid (HM.out.step hi8 HB7.out G8.out HO8.out)
                              generalize w8.setCell ⟨A, i, none⟩ (.slice a8 1 c8) = w9 at *
                              clear hHeld hz0
                              have hrow := HM9.out.hd.row i hi8
                              have hc9 := (HM9.out.hd.arr i hi8).1
                              simp only [if_pos (Nat.lt_succ_self _), if_true] at hrow hc9
                              obtain ⟨bh, oh, _, e1, _, hrg⟩ := rd_range ptC 6 (fun _ => rfl) (rdRow_of_own hrow) (Nat.succ_pos 0)
                              replace e1 := (Value.slice.inj e1).1
                              subst e1
                              obtain ⟨z, ez⟩ : ∃ z, x = z := ⟨_, rfl⟩
                              have Hzx := Lib.hid (show decide (z ≠ x) = false from decide_eq_false (fun q => q ez.symm))
                              have Hzx2 := Lib.hid (show decide (z = x) = true from decide_eq_true ez.symm)
                              have Hrh := Lib.hid (show w9.rangeAt bh oh (ptC z) by have := hrg 0 (Nat.succ_pos 0); rw [← ez]; simpa using this)
                              clear ez
                              have Hc9 := Lib.hid hc9
                              clear hrow hc9 hrg HM Hca Hfa Hrow HnA Hx HNW HZ Hzl Hl1 Hl2 R6 G6 HB7 R7 HO8 G8 hbt7
                              go_upto_region 60 with fail
                              refine region_start (S := fun w' => Gr w9 w') (by kernel_rfl) (by exact Gr.dr Gr.rfl') (fun wz hz0 hHeld => ?_)
                              simp only [List.size_toArray, List.length_cons, List.length_nil, Nat.reduceAdd]
                              refine wpAnyH_take (i := 0) (oi := ?_) (v := ?_) ?_ (by kernel_rfl) (by kernel_rfl) (by kernel_rfl) ?_ ?_ (by assumption) ?_; rotate_left 2; (focus (simp only [List.getElem?_toArray, List.getElem?_cons_zero]; rfl)); (focus (exact fun _ _ _ h => h)); first | (focus (refine Or.inl ⟨by rfl, ?_⟩; intro w hSw; (try dsimp only at hSw); (try dsimp only [Array.getD]); go_simp; (try with_reducible rfl))) | (focus (refine Or.inr ⟨by rfl, ?_⟩; rfl)) | fail "op 0"
                              try simp only [Act.put, List.setIfInBounds_toArray, List.set_cons_zero, List.set_cons_succ]
                              refine wpAnyH_take (i := 1) (oi := ?_) (v := ?_) ?_ (by kernel_rfl) (by kernel_rfl) (by kernel_rfl) ?_ ?_ (by assumption) ?_; rotate_left 2; (focus (simp only [List.getElem?_toArray, List.getElem?_cons_succ, List.getElem?_cons_zero]; rfl)); (focus (exact fun _ _ _ h => h)); first | (focus (refine Or.inl ⟨by rfl, ?_⟩; intro w hSw; (try dsimp only at hSw); (try dsimp only [Array.getD]); go_simp; (try with_reducible rfl))) | (focus (refine Or.inr ⟨by rfl, ?_⟩; rfl)) | fail "op 1"
                              try simp only [Act.put, List.setIfInBounds_toArray, List.set_cons_zero, List.set_cons_succ]
                              refine wpAnyH_take (i := 2) (oi := ?_) (v := ?_) ?_ (by kernel_rfl) (by kernel_rfl) (by kernel_rfl) ?_ ?_ (by assumption) ?_; rotate_left 2; (focus (simp only [List.getElem?_toArray, List.getElem?_cons_succ, List.getElem?_cons_zero]; rfl)); (focus (exact fun _ _ _ h => h)); first | (focus (refine Or.inl ⟨by rfl, ?_⟩; intro w hSw; (try dsimp only at hSw); have ca := keepc hSw Hc9.out; (try dsimp only [Array.getD]); go_simp; (try with_reducible rfl))) | (focus (refine Or.inr ⟨by rfl, ?_⟩; rfl)) | fail "op 2"
                              try simp only [Act.put, List.setIfInBounds_toArray, List.set_cons_zero, List.set_cons_succ]
                              refine wpAnyH_take (i := 3) (oi := ?_) (v := ?_) ?_ (by kernel_rfl) (by kernel_rfl) (by kernel_rfl) ?_ ?_ (by assumption) ?_; rotate_left 2; (focus (simp only [List.getElem?_toArray, List.getElem?_cons_succ, List.getElem?_cons_zero]; rfl)); (focus (exact fun _ _ _ h => h)); first | (focus (refine Or.inl ⟨by rfl, ?_⟩; intro w hSw; (try dsimp only at hSw); skip; (try dsimp only [Array.getD]); go_simp; (try with_reducible rfl))) | (focus (refine Or.inr ⟨by rfl, ?_⟩; rfl)) | fail "op 3"
                              try simp only [Act.put, List.setIfInBounds_toArray, List.set_cons_zero, List.set_cons_succ]
                              refine wpAnyH_take (i := 4) (oi := ?_) (v := ?_) ?_ (by kernel_rfl) (by kernel_rfl) (by kernel_rfl) ?_ ?_ (by assumption) ?_; rotate_left 2; (focus (simp only [List.getElem?_toArray, List.getElem?_cons_succ, List.getElem?_cons_zero]; rfl)); (focus (exact fun _ _ _ h => h)); first | (focus (refine Or.inl ⟨by rfl, ?_⟩; intro w hSw; (try dsimp only at hSw); (try dsimp only [Array.getD]); go_simp; (try with_reducible rfl))) | (focus (refine Or.inr ⟨by rfl, ?_⟩; rfl)) | fail "op 4"
                              try simp only [Act.put, List.setIfInBounds_toArray, List.set_cons_zero, List.set_cons_succ]
                              refine wpAnyH_take (i := 5) (oi := ?_) (v := ?_) ?_ (by kernel_rfl) (by kernel_rfl) (by kernel_rfl) ?_ ?_ (by assumption) ?_; rotate_left 2; (focus (simp only [List.getElem?_toArray, List.getElem?_cons_succ, List.getElem?_cons_zero]; rfl)); (focus (exact fun _ _ _ h => h)); first | (focus (refine Or.inl ⟨by rfl, ?_⟩; intro w hSw; (try dsimp only at hSw); (try dsimp only [Array.getD]); go_simp; (try with_reducible rfl))) | (focus (refine Or.inr ⟨by rfl, ?_⟩; rfl)) | fail "op 5"
                              try simp only [Act.put, List.setIfInBounds_toArray, List.set_cons_zero, List.set_cons_succ]
                              refine wpAnyH_take (i := 6) (oi := ?_) (v := ?_) ?_ (by kernel_rfl) (by kernel_rfl) (by kernel_rfl) ?_ ?_ (by assumption) ?_; rotate_left 2; (focus (simp only [List.getElem?_toArray, List.getElem?_cons_succ, List.getElem?_cons_zero]; rfl)); (focus (exact fun _ _ _ h => h)); first | (focus (refine Or.inl ⟨by rfl, ?_⟩; intro w hSw; (try dsimp only at hSw); (try dsimp only [Array.getD]); go_simp; (try with_reducible rfl))) | (focus (refine Or.inr ⟨by rfl, ?_⟩; rfl)) | fail "op 6"
                              try simp only [Act.put, List.setIfInBounds_toArray, List.set_cons_zero, List.set_cons_succ]
                              refine wpAnyH_take (i := 7) (oi := ?_) (v := ?_) ?_ (by kernel_rfl) (by kernel_rfl) (by kernel_rfl) ?_ ?_ (by assumption) ?_; rotate_left 2; (focus (simp only [List.getElem?_toArray, List.getElem?_cons_succ, List.getElem?_cons_zero]; rfl)); (focus (exact fun _ _ _ h => h)); first | (focus (refine Or.inl ⟨by rfl, ?_⟩; intro w hSw; (try dsimp only at hSw); (try dsimp only [Array.getD]); go_simp; (try with_reducible rfl))) | (focus (refine Or.inr ⟨by rfl, ?_⟩; rfl)) | fail "op 7"
                              try simp only [Act.put, List.setIfInBounds_toArray, List.set_cons_zero, List.set_cons_succ]
                              refine wpAnyH_take (i := 8) (oi := ?_) (v := ?_) ?_ (by kernel_rfl) (by kernel_rfl) (by kernel_rfl) ?_ ?_ (by assumption) ?_; rotate_left 2; (focus (simp only [List.getElem?_toArray, List.getElem?_cons_succ, List.getElem?_cons_zero]; rfl)); (focus (exact fun _ _ _ h => h)); first | (focus (refine Or.inl ⟨by rfl, ?_⟩; intro w hSw; (try dsimp only at hSw); have ca := keepc hSw Hc9.out; (try dsimp only [Array.getD]); go_simp; (try with_reducible rfl))) | (focus (refine Or.inr ⟨by rfl, ?_⟩; rfl)) | fail "op 8"
                              try simp only [Act.put, List.setIfInBounds_toArray, List.set_cons_zero, List.set_cons_succ]
                              refine wpAnyH_take (i := 9) (oi := ?_) (v := ?_) ?_ (by kernel_rfl) (by kernel_rfl) (by kernel_rfl) ?_ ?_ (by assumption) ?_; rotate_left 2; (focus (simp only [List.getElem?_toArray, List.getElem?_cons_succ, List.getElem?_cons_zero]; rfl)); (focus (exact fun _ _ _ h => h)); first | (focus (refine Or.inl ⟨by rfl, ?_⟩; intro w hSw; (try dsimp only at hSw); (try dsimp only [Array.getD]); go_simp; (try with_reducible rfl))) | (focus (refine Or.inr ⟨by rfl, ?_⟩; rfl)) | fail "op 9"
                              try simp only [Act.put, List.setIfInBounds_toArray, List.set_cons_zero, List.set_cons_succ]
                              refine wpAnyH_take (i := 10) (oi := ?_) (v := ?_) ?_ (by kernel_rfl) (by kernel_rfl) (by kernel_rfl) ?_ ?_ (by assumption) ?_; rotate_left 2; (focus (simp only [List.getElem?_toArray, List.getElem?_cons_succ, List.getElem?_cons_zero]; rfl)); (focus (exact fun _ _ _ h => h)); first | (focus (refine Or.inl ⟨by rfl, ?_⟩; intro w hSw; (try dsimp only at hSw); refine (exec_load_mid 26 (.tmp 231) (by rfl) bh oh (by rfl) (ptC z) _ (rangeAt_gr hSw Hrh.out) Try.underlying26 rfl info_pt).trans ?_; with_reducible rfl)) | (focus (refine Or.inr ⟨by rfl, ?_⟩; rfl)) | fail "op 10"
                              try simp only [Act.put, List.setIfInBounds_toArray, List.set_cons_zero, List.set_cons_succ]
                              refine wpAnyH_take (i := 11) (oi := ?_) (v := ?_) ?_ (by kernel_rfl) (by kernel_rfl) (by kernel_rfl) ?_ ?_ (by assumption) ?_; rotate_left 2; (focus (simp only [List.getElem?_toArray, List.getElem?_cons_succ, List.getElem?_cons_zero]; rfl)); (focus (exact fun _ _ _ h => h)); first | (focus (refine Or.inl ⟨by rfl, ?_⟩; intro w hSw; (try dsimp only at hSw); refine (exec_load_row 26 (.tmp 4) (by rfl) PB (by rfl) _ (ptC x).toArray (0, 0) _ (hSw.blk HM9.out.bp) Try.underlying26 rfl info_pt).trans ?_; with_reducible rfl)) | (focus (refine Or.inr ⟨by rfl, ?_⟩; rfl)) | fail "op 11"
                              try simp only [Act.put, List.setIfInBounds_toArray, List.set_cons_zero, List.set_cons_succ]
                              refine wpAnyH_take (i := 12) (oi := ?_) (v := ?_) ?_ (by kernel_rfl) (by kernel_rfl) (by kernel_rfl) ?_ ?_ (by assumption) ?_; rotate_left 2; (focus (simp only [List.getElem?_toArray, List.getElem?_cons_succ, List.getElem?_cons_zero]; rfl)); (focus (exact fun _ _ _ h => h)); first | (focus (refine Or.inl ⟨by rfl, ?_⟩; intro w hSw; (try dsimp only at hSw); (try dsimp only [Array.getD]); go_simp; refine (ne_pt z x _).trans ?_; with_reducible rfl)) | (focus (refine Or.inr ⟨by rfl, ?_⟩; rfl)) | fail "op 12"
                              try simp only [Act.put, List.setIfInBounds_toArray, List.set_cons_zero, List.set_cons_succ]
                              refine wpAnyH_take (i := 13) (oi := ?_) (v := ?_) ?_ (by kernel_rfl) (by kernel_rfl) (by kernel_rfl) ?_ ?_ (by assumption) ?_; rotate_left 2; (focus (simp only [List.getElem?_toArray, List.getElem?_cons_succ, List.getElem?_cons_zero]; rfl)); (focus (exact fun _ _ _ h => h)); first | (focus (refine Or.inl ⟨by rfl, ?_⟩; intro w hSw; (try dsimp only at hSw); (try dsimp only [Array.getD]); go_simp; (try with_reducible rfl))) | (focus (refine Or.inr ⟨by rfl, ?_⟩; rfl)) | fail "op 13"
                              try simp only [Act.put, List.setIfInBounds_toArray, List.set_cons_zero, List.set_cons_succ]
                              refine wpAnyH_done (by kernel_rfl) ?_ _
                              have HM10 := Lib.hid (HM9.out.grow hHeld)
                              clear hHeld hz0
                              (try rw [Hzx.out])
                              (try rw [show (!decide (z = x)) = false by rw [Hzx2.out]; rfl])
                              clear HM9 Hc9 Hrh
                              go_wp2_with fail
                              go_roundw
                              case rel => exact ⟨i + 1, _, by omega, by go_num, HM10⟩
                              case measure => simp [intOf]; omega
                            · obtain rfl : n = i := by omega
                              clear hlt hi
                              go_wp2_with fail
                              go_ret
                              exact ⟨rfl, HM.out.gr⟩
                        · have hdn : decide ((0 : Int) < r ∧ (r : Int) ≤ (J.length : Int)) = false := decide_eq_false (by omega)
                          have Hdn := Lib.hid hdn
                          have hin : i < A1.length + n := by
                            rcases Nat.lt_or_ge i (A1.length + n) with h | h
                            · exact h
                            · have := HJ.out.full h; omega
                          clear hdn
                          go_wp2_with fail
                          refine (HQ.out.rd.done).mono ?_
                          rintro e w5 ⟨rfl, hg5⟩
                          rw [Hdn.out]
                          replace HQ := Lib.hid (HQ.out.grow hg5)
                          clear hg5 Hdn
                          have co1 := (cell_of_row _ _ 1 _ _ _ HQ.out.bo).trans (rfl : _ = some (Value.slice a1 A1.length c1))
                          by_cases hia : i < A1.length
                          · have hia' : (i : Int) < A1.length := by omega
                            obtain ⟨m, hm7, em⟩ := and7_ok A1[i]
                            obtain ⟨bl, ol, _, e1, _, hrg⟩ := rd_range (fun y : Int => [.int .i64 y]) 1 (fun _ => rfl) (H1.out.gr HQ.out.gr) (by omega)
                            replace e1 := (Value.slice.inj e1).1
                            subst e1
                            have ci := hrg i hia 0 _ rfl
                            have hm7' : ¬ (7 : Int) < m := by omega
                            clear hrg
                            generalize A1[i] = y at *
                            rw [Nat.mul_one, Nat.add_zero] at ci
                            have HS := Lib.hid (HJ.out.step (m : Int) (fun h => absurd h (by omega)))
                            by_cases hmn : m < n
                            · have hmn' : (m : Int) < n := by omega
                              have ca := (HQ.out.hd.arr m (by omega)).1
                              go_wp2_with fail
                              refine (HQ.out.ans (by omega) m hm7).mono ?_
                              rintro e w5 ⟨rfl, hM5⟩
                              have HM5 := Lib.hid hM5
                              clear hM5 ca
                              go_wp2_with fail
                              go_roundw
                              case rel => exact ⟨i + 1, _, by omega, by go_num, HM5, HS⟩
                              case measure => simp [intOf]; omega
                            · have hmn' : ¬ (m : Int) < n := by omega
                              have eH : ackH (upA n) J m = J := if_neg (fun z => hmn (by have := mem_up.1 z.1; omega))
                              rw [eH] at HS
                              clear eH
                              go_wp2_with fail
                              all_goals go_roundw
                              all_goals first
                                | exact ⟨i + 1, _, by omega, by go_num, HQ, HS⟩
                                | (simp [intOf]; omega)
                          · have hia' : ¬ (i : Int) < A1.length := by omega
                            obtain ⟨m, em⟩ : ∃ m : Nat, i - A1.length = m := ⟨_, rfl⟩
                            have em' : (i : Int) - A1.length = m := by omega
                            have hm7 : m ≤ 7 := by omega
                            have hm7' : ¬ (7 : Int) < m := by omega
                            have HS := Lib.hid (HJ.out.step (m : Int) (fun h => by omega))
                            by_cases hmn : m < n
                            · have hmn' : (m : Int) < n := by omega
                              have ca := (HQ.out.hd.arr m (by omega)).1
                              go_wp2_with fail
                              refine (HQ.out.ans (by omega) m hm7).mono ?_
                              rintro e w5 ⟨rfl, hM5⟩
                              have HM5 := Lib.hid hM5
                              clear hM5 ca
                              go_wp2_with fail
                              go_roundw
                              case rel => exact ⟨i + 1, _, by omega, by go_num, HM5, HS⟩
                              case measure => simp [intOf]; omega
                            · have hmn' : ¬ (m : Int) < n := by omega
                              have eH : ackH (upA n) J m = J := if_neg (fun z => hmn (by have := mem_up.1 z.1; omega))
                              rw [eH] at HS
                              clear eH
                              go_wp2_with fail
                              all_goals go_roundw
                              all_goals first
                                | exact ⟨i + 1, _, by omega, by go_num, HQ, HS⟩
                                | (simp [intOf]; omega)
                    · have hdn : decide ((0 : Int) < k ∧ (k : Int) ≤ (H.length : Int)) = false := decide_eq_false (by omega)
                      have Hdn := Lib.hid hdn
                      have hin : i < A0.length + n := by
                        rcases Nat.lt_or_ge i (A0.length + n) with h | h
                        · exact h
                        · have := HA.out.full h; omega
                      clear hdn
                      go_wp2_with fail
                      refine (HQ.out.wr.done).mono ?_
                      rintro e w5 ⟨rfl, hg5⟩
                      rw [Hdn.out]
                      replace HQ := Lib.hid (HQ.out.grow hg5)
                      clear hg5 Hdn
                      have co0 := (cell_of_row _ _ 0 _ _ _ HQ.out.bo).trans (rfl : _ = some (Value.slice a0 A0.length c0))
                      by_cases hia : i < A0.length
                      · have hia' : (i : Int) < A0.length := by omega
                        obtain ⟨m, hm7, em⟩ := and7_ok A0[i]
                        obtain ⟨bl, ol, _, e1, _, hrg⟩ := rd_range (fun y : Int => [.int .i64 y]) 1 (fun _ => rfl) (H0.out.gr HQ.out.gr) (by omega)
                        replace e1 := (Value.slice.inj e1).1
                        subst e1
                        have ci := hrg i hia 0 _ rfl
                        have hm7' : ¬ (7 : Int) < m := by omega
                        clear hrg
                        generalize A0[i] = y at *
                        rw [Nat.mul_one, Nat.add_zero] at ci
                        go_wp2_with fail
                        refine (HQ.out.ack (by omega) m hm7).mono ?_
                        rintro e w5 ⟨rfl, hM5⟩
                        have HS := Lib.hid (HA.out.step (m : Int) (fun h => absurd h (by omega)))
                        by_cases hb : ackB (upA n) H m
                        · have hmn : m < n := by have := mem_up.1 hb.1; omega
                          have hm8 : m < 8 := by omega
                          have hm8i : (m : Int) < 8 := by omega
                          rw [decide_eq_true hb]
                          have eH : ackH (upA n) H m = H ++ [(m : Int)] := if_pos hb
                          rw [eH] at hM5 HS
                          have HP := Lib.hid (stM_none (p := x) hmn hb.2)
                          have HM5 := Lib.hid hM5
                          have Hca := Lib.hid (HM5.out.hd.arr m hm8).1
                          have Hfa := Lib.hid (HM5.out.hd.arr m hm8).2
                          have HQl := Lib.hid (Nat.le_trans (stM_len n x H m) (show 1 ≤ 100000 by decide))
                          clear hM5 eH hb
                          go_upto_region 42 with fail
                          refine region_startJ (S := fun w' => Gr w5 w') 7 (by kernel_rfl) (by exact Gr.dr Gr.rfl') (fun wz hz0 hHeld => ?_)
                          simp only [List.size_toArray, List.length_cons, List.length_nil, Nat.reduceAdd]
                          refine wpAnyJ_take (i := 0) (oi := ?_) (v := ?_) ?_ (by kernel_rfl) ?_ ?_ (by assumption) ?_; rotate_left 2; (focus (simp only [List.getElem?_toArray, List.getElem?_cons_zero]; rfl)); (focus (exact fun _ _ _ h => h)); first | (focus (refine Or.inl ⟨by rfl, ?_⟩; intro w hSw; (try dsimp only at hSw); (try dsimp only [Array.getD]); go_simp; (try with_reducible rfl))) | (focus (refine Or.inr ⟨by rfl, ?_⟩; rfl)) | fail "op 0"
                          try simp only [Act.put, List.setIfInBounds_toArray, List.set_cons_zero, List.set_cons_succ]
                          refine wpAnyJ_take (i := 1) (oi := ?_) (v := ?_) ?_ (by kernel_rfl) ?_ ?_ (by assumption) ?_; rotate_left 2; (focus (simp only [List.getElem?_toArray, List.getElem?_cons_succ, List.getElem?_cons_zero]; rfl)); (focus (exact fun _ _ _ h => h)); first | (focus (refine Or.inl ⟨by rfl, ?_⟩; intro w hSw; (try dsimp only at hSw); (try dsimp only [Array.getD]); go_simp; (try with_reducible rfl))) | (focus (refine Or.inr ⟨by rfl, ?_⟩; rfl)) | fail "op 1"
                          try simp only [Act.put, List.setIfInBounds_toArray, List.set_cons_zero, List.set_cons_succ]
                          refine wpAnyJ_take (i := 2) (oi := ?_) (v := ?_) ?_ (by kernel_rfl) ?_ ?_ (by assumption) ?_; rotate_left 2; (focus (simp only [List.getElem?_toArray, List.getElem?_cons_succ, List.getElem?_cons_zero]; rfl)); (focus (exact fun _ _ _ h => h)); first | (focus (refine Or.inl ⟨by rfl, ?_⟩; intro w hSw; (try dsimp only at hSw); (try dsimp only [Array.getD]); go_simp; (try with_reducible rfl))) | (focus (refine Or.inr ⟨by rfl, ?_⟩; rfl)) | fail "op 2"
                          try simp only [Act.put, List.setIfInBounds_toArray, List.set_cons_zero, List.set_cons_succ]
                          refine wpAnyJ_take (i := 3) (oi := ?_) (v := ?_) ?_ (by kernel_rfl) ?_ ?_ (by assumption) ?_; rotate_left 2; (focus (simp only [List.getElem?_toArray, List.getElem?_cons_succ, List.getElem?_cons_zero]; rfl)); (focus (exact fun _ _ _ h => h)); first | (focus (refine Or.inl ⟨by rfl, ?_⟩; intro w hSw; (try dsimp only at hSw); have ca := keepc hSw Hca.out; (try dsimp only [Array.getD]); go_simp; (try with_reducible rfl))) | (focus (refine Or.inr ⟨by rfl, ?_⟩; rfl)) | fail "op 3"
                          try simp only [Act.put, List.setIfInBounds_toArray, List.set_cons_zero, List.set_cons_succ]
                          refine wpAnyJ_take (i := 4) (oi := ?_) (v := ?_) ?_ (by kernel_rfl) ?_ ?_ (by assumption) ?_; rotate_left 2; (focus (simp only [List.getElem?_toArray, List.getElem?_cons_succ, List.getElem?_cons_zero]; rfl)); (focus (exact fun _ _ _ h => h)); first | (focus (refine Or.inl ⟨by rfl, ?_⟩; intro w hSw; (try dsimp only at hSw); refine (exec_load_row 26 (.tmp 4) (by rfl) PB (by rfl) _ (ptC x).toArray (0, 0) _ (hSw.blk HM5.out.bp) Try.underlying26 rfl info_pt).trans ?_; with_reducible rfl)) | (focus (refine Or.inr ⟨by rfl, ?_⟩; rfl)) | fail "op 4"
                          try simp only [Act.put, List.setIfInBounds_toArray, List.set_cons_zero, List.set_cons_succ]
                          refine wpAnyJ_ready (rs := [5]) (by kernel_rfl) (by simp) (by rfl) ?_
                          refine AllReadyJ.cons (o := ?_) ?_ (fun K hK => ?_) AllReadyJ.nil; rotate_left; (focus (simp only [List.getElem?_toArray, List.getElem?_cons_succ, List.getElem?_cons_zero]; rfl))
                          go_simp
                          go_at_call 15
                          refine (rput_calls (F m) (stM n x H m) _ (rdRow_of_own ((HM5.out.hd.gr hHeld).row m hm8)) HQl.out x).mono ?_
                          rintro e w6 ⟨v6, rfl, ho6, hg6⟩
                          rw [HP.out] at ho6
                          obtain ⟨a6, c6, e6⟩ : ∃ a c, v6 = .slice a 1 c := own_slice ho6
                          subst e6
                          have HO6 := Lib.hid (own_mono ho6 hHeld.size)
                          clear ho6
                          refine hK.out _ _ (hHeld.tr hg6) (fun hHeld => ?_)
                          clear hK K
                          try simp only [Act.put, List.setIfInBounds_toArray, List.set_cons_zero, List.set_cons_succ]
                          refine wpAnyJ_take (i := 6) (oi := ?_) (v := ?_) ?_ (by kernel_rfl) ?_ ?_ (by assumption) ?_; rotate_left 2; (focus (simp only [List.getElem?_toArray, List.getElem?_cons_succ, List.getElem?_cons_zero]; rfl)); (focus (exact fun _ _ _ h => h)); first | (focus (refine Or.inl ⟨by rfl, ?_⟩; intro w hSw; (try dsimp only at hSw); (try dsimp only [Array.getD]); go_simp; (try with_reducible rfl))) | (focus (refine Or.inr ⟨by rfl, ?_⟩; rfl)) | fail "op 6"
                          try simp only [Act.put, List.setIfInBounds_toArray, List.set_cons_zero, List.set_cons_succ]
                          refine wpAnyJ_tail (i := 7) (o := ?_) (by kernel_rfl) (by decide) ?_ (fun K hK => ?_); rotate_left; (focus (simp only [List.getElem?_toArray, List.getElem?_cons_succ, List.getElem?_cons_zero]; rfl))
                          have c5 := keepc hHeld Hca.out
                          have f5 := keepf hHeld Hca.out Hfa.out
                          go_simp
                          refine hK.out _ _ ?_
                          clear hK K
                          try simp only [Act.put, List.setIfInBounds_toArray, List.set_cons_zero, List.set_cons_succ]
                          refine wpAny_done (by kernel_rfl) ?_ _
                          have HM6 := Lib.hid ((HM5.out.grow hHeld).put hmn hHeld HM5.out.hd HO6.out)
                          generalize w6.setCell ⟨A, m, none⟩ (.slice a6 1 c6) = w7 at *
                          clear hHeld HM5 HO6 Hca Hfa HP HQl
                          go_wp2_with fail
                          go_roundw
                          case rel => exact ⟨i + 1, _, _, by omega, by go_num, HM6, HS⟩
                          case measure => simp [intOf]; omega
                        · rw [decide_eq_false hb]
                          have eH : ackH (upA n) H m = H := if_neg hb
                          rw [eH] at hM5 HS
                          have HM5 := Lib.hid hM5
                          clear hM5 eH hb
                          go_wp2_with fail
                          go_roundw
                          case rel => exact ⟨i + 1, _, _, by omega, by go_num, HM5, HS⟩
                          case measure => simp [intOf]; omega
                      · have hia' : ¬ (i : Int) < A0.length := by omega
                        obtain ⟨m, em⟩ : ∃ m : Nat, i - A0.length = m := ⟨_, rfl⟩
                        have em' : (i : Int) - A0.length = m := by omega
                        have hm7 : m ≤ 7 := by omega
                        have hm7' : ¬ (7 : Int) < m := by omega
                        go_wp2_with fail
                        refine (HQ.out.ack (by omega) m hm7).mono ?_
                        rintro e w5 ⟨rfl, hM5⟩
                        have HS := Lib.hid (HA.out.step (m : Int) (fun h => by omega))
                        by_cases hb : ackB (upA n) H m
                        · have hmn : m < n := by have := mem_up.1 hb.1; omega
                          have hm8 : m < 8 := by omega
                          have hm8i : (m : Int) < 8 := by omega
                          rw [decide_eq_true hb]
                          have eH : ackH (upA n) H m = H ++ [(m : Int)] := if_pos hb
                          rw [eH] at hM5 HS
                          have HP := Lib.hid (stM_none (p := x) hmn hb.2)
                          have HM5 := Lib.hid hM5
                          have Hca := Lib.hid (HM5.out.hd.arr m hm8).1
                          have Hfa := Lib.hid (HM5.out.hd.arr m hm8).2
                          have HQl := Lib.hid (Nat.le_trans (stM_len n x H m) (show 1 ≤ 100000 by decide))
                          clear hM5 eH hb
                          go_upto_region 42 with fail
                          refine region_startJ (S := fun w' => Gr w5 w') 7 (by kernel_rfl) (by exact Gr.dr Gr.rfl') (fun wz hz0 hHeld => ?_)
                          simp only [List.size_toArray, List.length_cons, List.length_nil, Nat.reduceAdd]
                          refine wpAnyJ_take (i := 0) (oi := ?_) (v := ?_) ?_ (by kernel_rfl) ?_ ?_ (by assumption) ?_; rotate_left 2; (focus (simp only [List.getElem?_toArray, List.getElem?_cons_zero]; rfl)); (focus (exact fun _ _ _ h => h)); first | (focus (refine Or.inl ⟨by rfl, ?_⟩; intro w hSw; (try dsimp only at hSw); (try dsimp only [Array.getD]); go_simp; (try with_reducible rfl))) | (focus (refine Or.inr ⟨by rfl, ?_⟩; rfl)) | fail "op 0"
                          try simp only [Act.put, List.setIfInBounds_toArray, List.set_cons_zero, List.set_cons_succ]
                          refine wpAnyJ_take (i := 1) (oi := ?_) (v := ?_) ?_ (by kernel_rfl) ?_ ?_ (by assumption) ?_; rotate_left 2; (focus (simp only [List.getElem?_toArray, List.getElem?_cons_succ, List.getElem?_cons_zero]; rfl)); (focus (exact fun _ _ _ h => h)); first | (focus (refine Or.inl ⟨by rfl, ?_⟩; intro w hSw; (try dsimp only at hSw); (try dsimp only [Array.getD]); go_simp; (try with_reducible rfl))) | (focus (refine Or.inr ⟨by rfl, ?_⟩; rfl)) | fail "op 1"
                          try simp only [Act.put, List.setIfInBounds_toArray, List.set_cons_zero, List.set_cons_succ]
                          refine wpAnyJ_take (i := 2) (oi := ?_) (v := ?_) ?_ (by kernel_rfl) ?_ ?_ (by assumption) ?_; rotate_left 2; (focus (simp only [List.getElem?_toArray, List.getElem?_cons_succ, List.getElem?_cons_zero]; rfl)); (focus (exact fun _ _ _ h => h)); first | (focus (refine Or.inl ⟨by rfl, ?_⟩; intro w hSw; (try dsimp only at hSw); (try dsimp only [Array.getD]); go_simp; (try with_reducible rfl))) | (focus (refine Or.inr ⟨by rfl, ?_⟩; rfl)) | fail "op 2"
                          try simp only [Act.put, List.setIfInBounds_toArray, List.set_cons_zero, List.set_cons_succ]
                          refine wpAnyJ_take (i := 3) (oi := ?_) (v := ?_) ?_ (by kernel_rfl) ?_ ?_ (by assumption) ?_; rotate_left 2; (focus (simp only [List.getElem?_toArray, List.getElem?_cons_succ, List.getElem?_cons_zero]; rfl)); (focus (exact fun _ _ _ h => h)); first | (focus (refine Or.inl ⟨by rfl, ?_⟩; intro w hSw; (try dsimp only at hSw); have ca := keepc hSw Hca.out; (try dsimp only [Array.getD]); go_simp; (try with_reducible rfl))) | (focus (refine Or.inr ⟨by rfl, ?_⟩; rfl)) | fail "op 3"
                          try simp only [Act.put, List.setIfInBounds_toArray, List.set_cons_zero, List.set_cons_succ]
                          refine wpAnyJ_take (i := 4) (oi := ?_) (v := ?_) ?_ (by kernel_rfl) ?_ ?_ (by assumption) ?_; rotate_left 2; (focus (simp only [List.getElem?_toArray, List.getElem?_cons_succ, List.getElem?_cons_zero]; rfl)); (focus (exact fun _ _ _ h => h)); first | (focus (refine Or.inl ⟨by rfl, ?_⟩; intro w hSw; (try dsimp only at hSw); refine (exec_load_row 26 (.tmp 4) (by rfl) PB (by rfl) _ (ptC x).toArray (0, 0) _ (hSw.blk HM5.out.bp) Try.underlying26 rfl info_pt).trans ?_; with_reducible rfl)) | (focus (refine Or.inr ⟨by rfl, ?_⟩; rfl)) | fail "op 4"
                          try simp only [Act.put, List.setIfInBounds_toArray, List.set_cons_zero, List.set_cons_succ]
                          refine wpAnyJ_ready (rs := [5]) (by kernel_rfl) (by simp) (by rfl) ?_
                          refine AllReadyJ.cons (o := ?_) ?_ (fun K hK => ?_) AllReadyJ.nil; rotate_left; (focus (simp only [List.getElem?_toArray, List.getElem?_cons_succ, List.getElem?_cons_zero]; rfl))
                          go_simp
                          go_at_call 15
                          refine (rput_calls (F m) (stM n x H m) _ (rdRow_of_own ((HM5.out.hd.gr hHeld).row m hm8)) HQl.out x).mono ?_
                          rintro e w6 ⟨v6, rfl, ho6, hg6⟩
                          rw [HP.out] at ho6
                          obtain ⟨a6, c6, e6⟩ : ∃ a c, v6 = .slice a 1 c := own_slice ho6
                          subst e6
                          have HO6 := Lib.hid (own_mono ho6 hHeld.size)
                          clear ho6
                          refine hK.out _ _ (hHeld.tr hg6) (fun hHeld => ?_)
                          clear hK K
                          try simp only [Act.put, List.setIfInBounds_toArray, List.set_cons_zero, List.set_cons_succ]
                          refine wpAnyJ_take (i := 6) (oi := ?_) (v := ?_) ?_ (by kernel_rfl) ?_ ?_ (by assumption) ?_; rotate_left 2; (focus (simp only [List.getElem?_toArray, List.getElem?_cons_succ, List.getElem?_cons_zero]; rfl)); (focus (exact fun _ _ _ h => h)); first | (focus (refine Or.inl ⟨by rfl, ?_⟩; intro w hSw; (try dsimp only at hSw); (try dsimp only [Array.getD]); go_simp; (try with_reducible rfl))) | (focus (refine Or.inr ⟨by rfl, ?_⟩; rfl)) | fail "op 6"
                          try simp only [Act.put, List.setIfInBounds_toArray, List.set_cons_zero, List.set_cons_succ]
                          refine wpAnyJ_tail (i := 7) (o := ?_) (by kernel_rfl) (by decide) ?_ (fun K hK => ?_); rotate_left; (focus (simp only [List.getElem?_toArray, List.getElem?_cons_succ, List.getElem?_cons_zero]; rfl))
                          have c5 := keepc hHeld Hca.out
                          have f5 := keepf hHeld Hca.out Hfa.out
                          go_simp
                          refine hK.out _ _ ?_
                          clear hK K
                          try simp only [Act.put, List.setIfInBounds_toArray, List.set_cons_zero, List.set_cons_succ]
                          refine wpAny_done (by kernel_rfl) ?_ _
                          have HM6 := Lib.hid ((HM5.out.grow hHeld).put hmn hHeld HM5.out.hd HO6.out)
                          generalize w6.setCell ⟨A, m, none⟩ (.slice a6 1 c6) = w7 at *
                          clear hHeld HM5 HO6 Hca Hfa HP HQl
                          go_wp2_with fail
                          go_roundw
                          case rel => exact ⟨i + 1, _, _, by omega, by go_num, HM6, HS⟩
                          case measure => simp [intOf]; omega
                        · rw [decide_eq_false hb]
                          have eH : ackH (upA n) H m = H := if_neg hb
                          rw [eH] at hM5 HS
                          have HM5 := Lib.hid hM5
                          clear hM5 eH hb
                          go_wp2_with fail
                          go_roundw
                          case rel => exact ⟨i + 1, _, _, by omega, by go_num, HM5, HS⟩
                          case measure => simp [intOf]; omega
        · rw [decide_eq_false hok, show errOf false = 1 from rfl]
          clear hok
          go_wp2_with fail
          go_ret
          exact ⟨rfl, G3.out⟩
end Go.Proofs.Ytpnpnjfflblkpaa

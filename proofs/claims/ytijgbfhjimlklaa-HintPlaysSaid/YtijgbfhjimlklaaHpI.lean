/- HintPlays: the walk. -/
import Derived.Test.YtijgbfhjimlklaaHpH
import Derived.Deep.CutBlock
namespace Go.Proofs.Ytijgbfhjimlklaa
open Go.RowKit Go.Maps

set_option maxRecDepth 100000 in
set_option maxHeartbeats 16000000 in
theorem plays_law (room : Int) (v1 : Value) (ops : List OpR) (most : Int) (w : World) (h1 : rdRow w 9 v1 ops.length (ops.flatMap opC)) (hlen : ops.length ≤ maxLen) (hok : ∀ o ∈ ops, OpOk w o) :
    Calls Try.prog 6 #[.int .i64 room, v1, .int .i64 most] w fun e w' => e = .returned (.bool true) ∧ Gr w w' := by
  obtain ⟨a1, c1, rfl⟩ : ∃ a c, v1 = .slice a ops.length c := by obtain ⟨_, a, c, e, _⟩ := h1; exact ⟨a, c, e⟩
  have H1 := Lib.hid h1; have HOK := Lib.hid hok
  unfold maxLen at hlen
  clear h1 hok
  go_enter Try.func6, Try.ntmps6
  go_wp2_with fail
  refine (awake_calls _).mono ?_
  rintro e w1 ⟨rfl, hg1⟩
  have G1 := Lib.hid hg1
  clear hg1
  go_wp2_with fail
  refine (hnew_calls room _).mono ?_
  rintro e w2 ⟨p, b, rfl, ha, hp, hb, hg⟩
  have hs1 := G1.out.size
  have HA2 := Lib.hid (show OneH w w2 p b (mostH room) [] from ⟨ha, G1.out.tr hg, by omega, by omega⟩)
  have HP2 := Lib.hid (show p < w2.heap.size ∧ b < w2.heap.size from ⟨blk_lt ha.blk, ha.map.lt b rfl⟩)
  clear ha hp hb hg hs1 G1
  go_wp2_with fail
  refine (rhnew_calls room _).mono ?_
  rintro e w3 ⟨r, rfl, hr, hrn, hg⟩
  obtain ⟨N, eN⟩ : ∃ N, w2.heap.size = N := ⟨_, rfl⟩
  rw [eN] at hr hrn HP2
  have HI3 := Lib.hid (show PlI w w3 p b r N (mostH room) from ⟨_, [], ⟨HA2.out.grow hg, hr, HP2.out.1, HP2.out.2, hrn⟩, (mostH_bd room).1, InB.nil⟩)
  have Hm := Lib.hid (mostH_bd room)
  clear hr hrn hg HA2 HP2 eN
  generalize mostH room = m at *
  go_wp2_with fail
  go_loopw [10] (fun iv wr => ∃ i : Nat, i ≤ ops.length ∧ i ≤ 60 ∧ iv = .int .i64 i ∧ Hid (PlI w wr p b r N m)) (fun iv _ => ops.length - (intOf iv).toNat)
  case atStart => exact ⟨0, Nat.zero_le _, by omega, rfl, HI3⟩
  case round =>
    obtain ⟨i, hi, hi60, rfl, HR⟩ := hrel
    clear HI3
    by_cases hlt : i < ops.length ∧ i < 60
    · obtain ⟨hl1, hl2⟩ := hlt
      have hl1' : (i : Int) < ops.length := by omega
      have hl2' : (i : Int) < 60 := by omega
      obtain ⟨v, L, hR, hLm, hLb⟩ := HR.out
      have HRp := Lib.hid hR; have HLb := Lib.hid hLb
      have hL600 : L.length ≤ 600 := by have := Hm.out.2; omega
      clear HR hR hLb
      obtain ⟨bg, og, _, e1, _, hrg⟩ := rd_range opC 9 opC_len (H1.out.gr HRp.out.one.gr) (by omega)
      replace e1 := (Value.slice.inj e1).1
      subst e1
      have Hrg := Lib.hid (hrg i hl1)
      have Ho := Lib.hid (HOK.out _ (List.getElem_mem hl1))
      obtain ⟨o, eo⟩ : ∃ o, ops[i] = o := ⟨_, rfl⟩
      rw [eo] at Hrg Ho
      clear hrg eo
      have Hgs := Lib.hid (show b < wr.heap.size ∧ r < wr.heap.size ∧ ∀ k, v.ownBlock = some k → k < wr.heap.size from ⟨HRp.out.one.at_.map.lt b rfl, blk_lt HRp.out.rf.blk, fun k hk => (HRp.out.rf.row.lt k hk).2⟩)
      have Hd1 := Lib.hid (show o.d.oneCell' = true by obtain ⟨_, a, c, e, _⟩ := Ho.out.2.2.2.1; rw [e]; rfl)
      obtain ⟨A9, eA⟩ : ∃ A, wr.heap.size = A := ⟨_, rfl⟩
      have HA9 := Lib.hid eA
      have HB9 := Lib.hid (fun x => (by rw [← eA]; exact heap_alloc_new wr x : (wr.alloc x).heap[A9]? = some x))
      go_wp2_with (first | (refine wpList_load_mid rfl 51 (.tmp 39) rfl bg (og + i * 9) rfl (opC o) _ Hrg.out Try.underlying51 rfl info_op ?_) | (refine wpList_store_blk rfl 51 (.tmp 11) (.tmp 40) rfl A9 (opC o).toArray rfl rfl _ _ (HB9.out _) rfl info_op (opC_one o Hd1.out) (fun w3 b3 g3 s3 => ?_); have c91 := rangeAt_blk b3 0 (opC o) (fun j u h => by rw [Nat.zero_add]; simpa using h); have c92 := op_pt c91; rw [Nat.zero_add] at c92) | (refine wpList_load_mid rfl 31 (.tmp 41) rfl A9 2 rfl (ptC o.p) _ c92 Try.underlying31 rfl info_pt ?_))
      have hg3 : Gr wr w3 := gr_new (Gr.al Gr.rfl' (.cells #[.int .i64 0, .int .i64 0, .string ⟨#[]⟩, .int .i64 0, .int .i64 0, .int .i64 0, .int .i64 0, .int .i64 0, .slice none 0 0] 51)) g3 (Nat.le_of_eq eA)
      have HR3 := Lib.hid (HRp.out.grow hg3)
      have B93 := Lib.hid b3
      clear b3 g3 s3 c91 c92 hg3 eA HRp HB9 Hrg
      refine (small_calls o.p _).mono ?_
      rintro e w4 ⟨rfl, hg4⟩
      have HR4 := Lib.hid (HR3.out.grow hg4)
      have B94 := Lib.hid (hg4.blk B93.out)
      have Hqw := Lib.hid (smallP_w Ho.out.2.2.1)
      obtain ⟨q, eq⟩ : ∃ q, smallP o.p = q := ⟨_, rfl⟩
      rw [eq] at Hqw ⊢
      clear hg4 HR3 B93 eq
      go_upto_region 11 with (fail)
      obtain ⟨w5, e5, hg5, b5, s5⟩ := al_out w4 (.cells #[.string q.s, .int .i64 q.t, .int .i64 q.v, .int .i64 q.c, .int .i64 q.st, .int .i64 q.q] 31)
      rw [e5]
      obtain ⟨A8, eA8⟩ : ∃ A, w4.heap.size = A := ⟨_, rfl⟩
      rw [eA8] at b5 ⊢
      have HR5 := Lib.hid (HR4.out.grow hg5)
      have B95 := Lib.hid (hg5.blk B94.out)
      have B85 := Lib.hid b5
      have c90 : w5.cell? ⟨A9, 0, none⟩ = some (.int .i64 o.k) := (cell_of_row _ _ 0 _ _ _ B95.out).trans rfl
      have HAw := Lib.hid (show A9 < A8 by have := blk_lt B94.out; omega)
      clear e5 hg5 b5 s5 eA8 HR4 B94
      go_upto_if 48 with (fail)
      have hm2 : -4 ≤ o.k.tmod 5 ∧ o.k.tmod 5 ≤ 4 := by
        have h1 := Int.tmod_lt_of_pos o.k (b := 5) (by omega)
        have h2 := Int.lt_tmod_of_pos o.k (b := 5) (by omega)
        omega
      obtain ⟨y, hy⟩ : ∃ y, o.k.tmod 5 = y := ⟨_, rfl⟩
      rw [hy] at hm2 ⊢
      clear hy c90
      go_cut [13] (fun v wx => ∃ k : Int, 0 ≤ k ∧ k ≤ 4 ∧ v = .int .i64 k ∧ w5 = wx)
      case first =>
        by_cases hneg : y < 0
        · have hw : IntKind.i64.wrap (y + 5) = y + 5 := wrap_id (by unfold I64; omega)
          go_wp2_with fail
          go_meet
          exact ⟨y + 5, by omega, by omega, rfl, rfl⟩
        · go_wp2_with fail
          go_meet
          exact ⟨y, by omega, by omega, rfl, rfl⟩
      case rest =>
        obtain ⟨k, hk0, hk4, rfl, rfl⟩ := hcut
        clear hm2 y
        have HX := Lib.hid (show ∀ k, (k = b ∨ k = r ∨ v.ownBlock = some k) → k < A9 from fun k hk => by
          rw [← HA9.out]
          rcases hk with e | e | e
          · rw [e]; exact Hgs.out.1
          · rw [e]; exact Hgs.out.2.1
          · exact Hgs.out.2.2 k e)
        have c91 : w5.cell? ⟨A9, 1, none⟩ = some (.int .i64 o.n) := (cell_of_row _ _ 1 _ _ _ B95.out).trans rfl
        have C91 := Lib.hid c91
        clear c91
        go_upto_block 2 with (fail)
        go_cut [14] (fun v wx => v = .bool true ∧ PlC w wx p b r N m A9 A8 o q)
        case first =>
          obtain rfl | rfl | rfl | rfl | rfl : k = 0 ∨ k = 1 ∨ k = 2 ∨ k = 3 ∨ k = 4 := by omega
          · as_aux_lemma =>
              skip
              obtain ⟨da, dc, ed, hdc⟩ : ∃ a c, o.d = .slice a o.ns.length c ∧ o.ns.length ≤ c := by obtain ⟨_, a, c, e, hc, _⟩ := Ho.out.2.2.2.1; exact ⟨a, c, e, hc⟩
              have c98 : w5.cell? ⟨A9, 8, none⟩ = some (.slice da o.ns.length dc) := (cell_of_row _ _ 8 _ _ _ B95.out).trans (by rw [← ed]; rfl)
              have hmx : o.ns.length ≤ 2 ^ 63 - 1 := by have := Ho.out.2.2.2.2; unfold maxLen at this; exact this
              have h12 : (o.ns.take 12).length ≤ 12 := by rw [List.length_take]; omega
              have Hn := Lib.hid (show ∀ W, Gr w W → rdRow W 1 (.slice da (o.ns.take 12).length dc) (o.ns.take 12).length (encI (o.ns.take 12)) from fun W hg => by
                have h1 := Ho.out.2.2.2.1.gr hg
                rw [ed] at h1
                have := rd_take h1 (m := (o.ns.take 12).length) (by rw [List.length_take]; omega)
                rwa [show o.ns.take (o.ns.take 12).length = o.ns.take 12 by rw [List.length_take]; exact List.take_eq_take_min.symm] at this)
              have Hcut := Lib.hid (show (o.ns.length ≤ 12 → (o.ns.take 12).length = o.ns.length) ∧ (¬ o.ns.length ≤ 12 → (o.ns.take 12).length = 12) from ⟨fun h => by rw [List.length_take]; omega, fun h => by rw [List.length_take]; omega⟩)
              obtain ⟨ns, ens⟩ : ∃ ns, o.ns.take 12 = ns := ⟨_, rfl⟩
              rw [ens] at h12 Hn Hcut
              clear ens ed
              go_upto_if 56 with (fail)
              go_cut [16] (fun v wx => v = .slice da ns.length dc ∧ w5 = wx)
              case first =>
                by_cases hl : o.ns.length ≤ 12
                · have hl' : ¬ (12 : Int) < o.ns.length := by omega
                  have E1 := Lib.hid (Hcut.out.1 hl)
                  go_wp2_with fail
                  go_meet
                  exact ⟨by rw [E1.out], rfl⟩
                · have hl' : (12 : Int) < o.ns.length := by omega
                  have E1 := Lib.hid (Hcut.out.2 hl)
                  have hc12 : 12 ≤ dc := by omega
                  go_wp2_with fail
                  go_meet
                  exact ⟨by rw [E1.out], rfl⟩
              case rest =>
                obtain ⟨rfl, rfl⟩ := hcut
                clear hdc c98 Hcut hmx
                obtain ⟨ao, eao⟩ : ∃ d, decide (addOk m L q ns) = d := ⟨_, rfl⟩
                have EAO := Lib.hid eao
                clear eao
                go_upto_region 19 with (fail)
                refine region_start (S := fun w' => Bt (fun k => k = b ∨ k = r ∨ v.ownBlock = some k) w5 w') (by kernel_rfl) (by exact Bt.of (Gr.dr Gr.rfl')) (fun wz hz0 hHeld => ?_)
                simp only [List.size_toArray, List.length_cons, List.length_nil, Nat.reduceAdd]
                refine wpAnyH_take (i := 0) (oi := ?_) (v := ?_) ?_ (by kernel_rfl) (by kernel_rfl) (by kernel_rfl) ?_ ?_ (by assumption) ?_; rotate_left 2; (focus (simp only [List.getElem?_toArray, List.getElem?_cons_zero]; rfl)); (focus (exact fun _ _ _ h => h)); first | (focus (refine Or.inl ⟨by rfl, ?_⟩; intro w hSw; (try dsimp only at hSw); (try dsimp only [Array.getD]); go_simp; (try with_reducible rfl))) | (focus (refine Or.inr ⟨by rfl, ?_⟩; rfl)) | fail "op 0"
                try simp only [Act.put, List.setIfInBounds_toArray, List.set_cons_zero, List.set_cons_succ]
                refine wpAnyH_take (i := 1) (oi := ?_) (v := ?_) ?_ (by kernel_rfl) (by kernel_rfl) (by kernel_rfl) ?_ ?_ (by assumption) ?_; rotate_left 2; (focus (simp only [List.getElem?_toArray, List.getElem?_cons_succ, List.getElem?_cons_zero]; rfl)); (focus (exact fun _ _ _ h => h)); first | (focus (refine Or.inl ⟨by rfl, ?_⟩; intro w hSw; (try dsimp only at hSw); refine (exec_load_row 31 (.tmp 12) (by rfl) A8 (by rfl) _ (ptC q).toArray (0, 0) _ ((hSw.block A8 (blk_lt B85.out) (fun z => by have := HX.out A8 z; have := HAw.out; omega)).trans B85.out) Try.underlying31 rfl info_pt).trans ?_; with_reducible rfl)) | (focus (refine Or.inr ⟨by rfl, ?_⟩; rfl)) | fail "op 1"
                try simp only [Act.put, List.setIfInBounds_toArray, List.set_cons_zero, List.set_cons_succ]
                refine wpAnyH_take (i := 2) (oi := ?_) (v := ?_) ?_ (by kernel_rfl) (by kernel_rfl) (by kernel_rfl) ?_ ?_ (by assumption) ?_; rotate_left 2; (focus (simp only [List.getElem?_toArray, List.getElem?_cons_succ, List.getElem?_cons_zero]; rfl)); (focus (exact fun _ _ _ h => h)); first | (focus (refine Or.inl ⟨by rfl, ?_⟩; intro w hSw; (try dsimp only at hSw); (try dsimp only [Array.getD]); go_simp; (try with_reducible rfl))) | (focus (refine Or.inr ⟨by rfl, ?_⟩; rfl)) | fail "op 2"
                try simp only [Act.put, List.setIfInBounds_toArray, List.set_cons_zero, List.set_cons_succ]
                refine wpAnyH_take (i := 4) (oi := ?_) (v := ?_) ?_ (by kernel_rfl) (by kernel_rfl) (by kernel_rfl) ?_ ?_ (by assumption) ?_; rotate_left 2; (focus (simp only [List.getElem?_toArray, List.getElem?_cons_succ, List.getElem?_cons_zero]; rfl)); (focus (exact fun _ _ _ h => h)); first | (focus (refine Or.inl ⟨by rfl, ?_⟩; intro w hSw; (try dsimp only at hSw); (try dsimp only [Array.getD]); go_simp; (try with_reducible rfl))) | (focus (refine Or.inr ⟨by rfl, ?_⟩; rfl)) | fail "op 4"
                try simp only [Act.put, List.setIfInBounds_toArray, List.set_cons_zero, List.set_cons_succ]
                refine wpAnyH_take (i := 5) (oi := ?_) (v := ?_) ?_ (by kernel_rfl) (by kernel_rfl) (by kernel_rfl) ?_ ?_ (by assumption) ?_; rotate_left 2; (focus (simp only [List.getElem?_toArray, List.getElem?_cons_succ, List.getElem?_cons_zero]; rfl)); (focus (exact fun _ _ _ h => h)); first | (focus (refine Or.inl ⟨by rfl, ?_⟩; intro w hSw; (try dsimp only at hSw); refine (exec_load_row 31 (.tmp 12) (by rfl) A8 (by rfl) _ (ptC q).toArray (0, 0) _ ((hSw.block A8 (blk_lt B85.out) (fun z => by have := HX.out A8 z; have := HAw.out; omega)).trans B85.out) Try.underlying31 rfl info_pt).trans ?_; with_reducible rfl)) | (focus (refine Or.inr ⟨by rfl, ?_⟩; rfl)) | fail "op 5"
                try simp only [Act.put, List.setIfInBounds_toArray, List.set_cons_zero, List.set_cons_succ]
                refine wpAnyH_take (i := 6) (oi := ?_) (v := ?_) ?_ (by kernel_rfl) (by kernel_rfl) (by kernel_rfl) ?_ ?_ (by assumption) ?_; rotate_left 2; (focus (simp only [List.getElem?_toArray, List.getElem?_cons_succ, List.getElem?_cons_zero]; rfl)); (focus (exact fun _ _ _ h => h)); first | (focus (refine Or.inl ⟨by rfl, ?_⟩; intro w hSw; (try dsimp only at hSw); (try dsimp only [Array.getD]); go_simp; (try with_reducible rfl))) | (focus (refine Or.inr ⟨by rfl, ?_⟩; rfl)) | fail "op 6"
                try simp only [Act.put, List.setIfInBounds_toArray, List.set_cons_zero, List.set_cons_succ]
                refine wpAnyH_ready (rs := [3]) (by kernel_rfl) (by simp) ?_
                refine AllReadyH.cons (o := ?_) ?_ (fun K hK => ?_) AllReadyH.nil; rotate_left; (focus (simp only [List.getElem?_toArray, List.getElem?_cons_succ, List.getElem?_cons_zero]; rfl))
                go_simp
                go_at_call 12
                refine (add_calls _ p (some b) m L (HR5.out.grow hz0).one.at_ Hm.out (fun z => by cases z) hL600 q Hqw.out.2.2.1 _ ns (Hn.out _ (HR5.out.one.gr.tr hz0)) (by omega)).mono ?_
                rintro e w6 ⟨rfl, ha6, hb6⟩
                have HR6 := Lib.hid ((HR5.out.grow hz0).pkg ha6 hb6)
                rw [EAO.out]
                refine hK.out _ _ (hHeld.tr (hb6.mono fun k _ z => .inl (by injection z with z; exact z.symm))) (fun hHeld => ?_)
                clear hK K
                try simp only [Act.put, List.setIfInBounds_toArray, List.set_cons_zero, List.set_cons_succ]
                refine wpAnyH_ready (rs := [7]) (by kernel_rfl) (by simp) ?_
                refine AllReadyH.cons (o := ?_) ?_ (fun K hK => ?_) AllReadyH.nil; rotate_left; (focus (simp only [List.getElem?_toArray, List.getElem?_cons_succ, List.getElem?_cons_zero]; rfl))
                go_simp
                go_at_call 26
                refine (radd_calls _ r N m v L HR6.out.rf hL600 q _ ns (Hn.out _ HR6.out.one.gr) (by omega)).mono ?_
                rintro e w7 ⟨rfl, v7, hr7, hb7⟩
                have HR7 := Lib.hid (HR6.out.ref hr7 hb7)
                rw [EAO.out]
                refine hK.out _ _ (hHeld.tr (hb7.mono fun k _ z => .inr z)) (fun hHeld => ?_)
                clear hK K
                try simp only [Act.put, List.setIfInBounds_toArray, List.set_cons_zero, List.set_cons_succ]
                refine wpAnyH_take (i := 8) (oi := ?_) (v := ?_) ?_ (by kernel_rfl) (by kernel_rfl) (by kernel_rfl) ?_ ?_ (by assumption) ?_; rotate_left 2; (focus (simp only [List.getElem?_toArray, List.getElem?_cons_succ, List.getElem?_cons_zero]; rfl)); (focus (exact fun _ _ _ h => h)); first | (focus (refine Or.inl ⟨by rfl, ?_⟩; intro w hSw; (try dsimp only at hSw); (try dsimp only [Array.getD]); go_simp; (try with_reducible rfl))) | (focus (refine Or.inr ⟨by rfl, ?_⟩; rfl)) | fail "op 8"
                try simp only [Act.put, List.setIfInBounds_toArray, List.set_cons_zero, List.set_cons_succ]
                refine wpAnyH_take (i := 9) (oi := ?_) (v := ?_) ?_ (by kernel_rfl) (by kernel_rfl) (by kernel_rfl) ?_ ?_ (by assumption) ?_; rotate_left 2; (focus (simp only [List.getElem?_toArray, List.getElem?_cons_succ, List.getElem?_cons_zero]; rfl)); (focus (exact fun _ _ _ h => h)); first | (focus (refine Or.inl ⟨by rfl, ?_⟩; intro w hSw; (try dsimp only at hSw); (try dsimp only [Array.getD]); go_simp; (try with_reducible rfl))) | (focus (refine Or.inr ⟨by rfl, ?_⟩; rfl)) | fail "op 9"
                try simp only [Act.put, List.setIfInBounds_toArray, List.set_cons_zero, List.set_cons_succ]
                refine wpAnyH_done (by kernel_rfl) ?_ _
                have HC := Lib.hid (show PlC w w7 p b r N m A9 A8 o q from ⟨PlI.add HR7.out hLm HLb.out, (hHeld.block A9 (blk_lt B95.out) (fun z => absurd (HX.out A9 z) (Nat.lt_irrefl _))).trans B95.out, (hHeld.block A8 (blk_lt B85.out) (fun z => by have := HX.out A8 z; have := HAw.out; omega)).trans B85.out⟩)
                clear hHeld hz0 hr7 hb7 ha6 hb6 HR6 HR7
                go_wp2_with fail
                go_meet
                exact ⟨by first | rfl | simp, HC.out⟩
          · as_aux_lemma =>
              skip
              obtain ⟨da, dc, ed, hdc⟩ : ∃ a c, o.d = .slice a o.ns.length c ∧ o.ns.length ≤ c := by obtain ⟨_, a, c, e, hc, _⟩ := Ho.out.2.2.2.1; exact ⟨a, c, e, hc⟩
              have c98 : w5.cell? ⟨A9, 8, none⟩ = some (.slice da o.ns.length dc) := (cell_of_row _ _ 8 _ _ _ B95.out).trans (by rw [← ed]; rfl)
              have hmx : o.ns.length ≤ 2 ^ 63 - 1 := by have := Ho.out.2.2.2.2; unfold maxLen at this; exact this
              have h12 : (o.ns.take 12).length ≤ 12 := by rw [List.length_take]; omega
              have Hn := Lib.hid (show ∀ W, Gr w W → rdRow W 1 (.slice da (o.ns.take 12).length dc) (o.ns.take 12).length (encI (o.ns.take 12)) from fun W hg => by
                have h1 := Ho.out.2.2.2.1.gr hg
                rw [ed] at h1
                have := rd_take h1 (m := (o.ns.take 12).length) (by rw [List.length_take]; omega)
                rwa [show o.ns.take (o.ns.take 12).length = o.ns.take 12 by rw [List.length_take]; exact List.take_eq_take_min.symm] at this)
              have Hcut := Lib.hid (show (o.ns.length ≤ 12 → (o.ns.take 12).length = o.ns.length) ∧ (¬ o.ns.length ≤ 12 → (o.ns.take 12).length = 12) from ⟨fun h => by rw [List.length_take]; omega, fun h => by rw [List.length_take]; omega⟩)
              obtain ⟨ns, ens⟩ : ∃ ns, o.ns.take 12 = ns := ⟨_, rfl⟩
              rw [ens] at h12 Hn Hcut
              clear ens ed
              go_upto_if 56 with (fail)
              go_cut [16] (fun v wx => v = .slice da ns.length dc ∧ w5 = wx)
              case first =>
                by_cases hl : o.ns.length ≤ 12
                · have hl' : ¬ (12 : Int) < o.ns.length := by omega
                  have E1 := Lib.hid (Hcut.out.1 hl)
                  go_wp2_with fail
                  go_meet
                  exact ⟨by rw [E1.out], rfl⟩
                · have hl' : (12 : Int) < o.ns.length := by omega
                  have E1 := Lib.hid (Hcut.out.2 hl)
                  have hc12 : 12 ≤ dc := by omega
                  go_wp2_with fail
                  go_meet
                  exact ⟨by rw [E1.out], rfl⟩
              case rest =>
                obtain ⟨rfl, rfl⟩ := hcut
                clear hdc c98 Hcut hmx
                obtain ⟨ao, eao⟩ : ∃ d, decide (addOk m L q ns) = d := ⟨_, rfl⟩
                have EAO := Lib.hid eao
                clear eao
                go_upto_region 19 with (fail)
                refine region_start (S := fun w' => Bt (fun k => k = b ∨ k = r ∨ v.ownBlock = some k) w5 w') (by kernel_rfl) (by exact Bt.of (Gr.dr Gr.rfl')) (fun wz hz0 hHeld => ?_)
                simp only [List.size_toArray, List.length_cons, List.length_nil, Nat.reduceAdd]
                refine wpAnyH_take (i := 0) (oi := ?_) (v := ?_) ?_ (by kernel_rfl) (by kernel_rfl) (by kernel_rfl) ?_ ?_ (by assumption) ?_; rotate_left 2; (focus (simp only [List.getElem?_toArray, List.getElem?_cons_zero]; rfl)); (focus (exact fun _ _ _ h => h)); first | (focus (refine Or.inl ⟨by rfl, ?_⟩; intro w hSw; (try dsimp only at hSw); (try dsimp only [Array.getD]); go_simp; (try with_reducible rfl))) | (focus (refine Or.inr ⟨by rfl, ?_⟩; rfl)) | fail "op 0"
                try simp only [Act.put, List.setIfInBounds_toArray, List.set_cons_zero, List.set_cons_succ]
                refine wpAnyH_take (i := 1) (oi := ?_) (v := ?_) ?_ (by kernel_rfl) (by kernel_rfl) (by kernel_rfl) ?_ ?_ (by assumption) ?_; rotate_left 2; (focus (simp only [List.getElem?_toArray, List.getElem?_cons_succ, List.getElem?_cons_zero]; rfl)); (focus (exact fun _ _ _ h => h)); first | (focus (refine Or.inl ⟨by rfl, ?_⟩; intro w hSw; (try dsimp only at hSw); refine (exec_load_row 31 (.tmp 12) (by rfl) A8 (by rfl) _ (ptC q).toArray (0, 0) _ ((hSw.block A8 (blk_lt B85.out) (fun z => by have := HX.out A8 z; have := HAw.out; omega)).trans B85.out) Try.underlying31 rfl info_pt).trans ?_; with_reducible rfl)) | (focus (refine Or.inr ⟨by rfl, ?_⟩; rfl)) | fail "op 1"
                try simp only [Act.put, List.setIfInBounds_toArray, List.set_cons_zero, List.set_cons_succ]
                refine wpAnyH_take (i := 2) (oi := ?_) (v := ?_) ?_ (by kernel_rfl) (by kernel_rfl) (by kernel_rfl) ?_ ?_ (by assumption) ?_; rotate_left 2; (focus (simp only [List.getElem?_toArray, List.getElem?_cons_succ, List.getElem?_cons_zero]; rfl)); (focus (exact fun _ _ _ h => h)); first | (focus (refine Or.inl ⟨by rfl, ?_⟩; intro w hSw; (try dsimp only at hSw); (try dsimp only [Array.getD]); go_simp; (try with_reducible rfl))) | (focus (refine Or.inr ⟨by rfl, ?_⟩; rfl)) | fail "op 2"
                try simp only [Act.put, List.setIfInBounds_toArray, List.set_cons_zero, List.set_cons_succ]
                refine wpAnyH_take (i := 4) (oi := ?_) (v := ?_) ?_ (by kernel_rfl) (by kernel_rfl) (by kernel_rfl) ?_ ?_ (by assumption) ?_; rotate_left 2; (focus (simp only [List.getElem?_toArray, List.getElem?_cons_succ, List.getElem?_cons_zero]; rfl)); (focus (exact fun _ _ _ h => h)); first | (focus (refine Or.inl ⟨by rfl, ?_⟩; intro w hSw; (try dsimp only at hSw); (try dsimp only [Array.getD]); go_simp; (try with_reducible rfl))) | (focus (refine Or.inr ⟨by rfl, ?_⟩; rfl)) | fail "op 4"
                try simp only [Act.put, List.setIfInBounds_toArray, List.set_cons_zero, List.set_cons_succ]
                refine wpAnyH_take (i := 5) (oi := ?_) (v := ?_) ?_ (by kernel_rfl) (by kernel_rfl) (by kernel_rfl) ?_ ?_ (by assumption) ?_; rotate_left 2; (focus (simp only [List.getElem?_toArray, List.getElem?_cons_succ, List.getElem?_cons_zero]; rfl)); (focus (exact fun _ _ _ h => h)); first | (focus (refine Or.inl ⟨by rfl, ?_⟩; intro w hSw; (try dsimp only at hSw); refine (exec_load_row 31 (.tmp 12) (by rfl) A8 (by rfl) _ (ptC q).toArray (0, 0) _ ((hSw.block A8 (blk_lt B85.out) (fun z => by have := HX.out A8 z; have := HAw.out; omega)).trans B85.out) Try.underlying31 rfl info_pt).trans ?_; with_reducible rfl)) | (focus (refine Or.inr ⟨by rfl, ?_⟩; rfl)) | fail "op 5"
                try simp only [Act.put, List.setIfInBounds_toArray, List.set_cons_zero, List.set_cons_succ]
                refine wpAnyH_take (i := 6) (oi := ?_) (v := ?_) ?_ (by kernel_rfl) (by kernel_rfl) (by kernel_rfl) ?_ ?_ (by assumption) ?_; rotate_left 2; (focus (simp only [List.getElem?_toArray, List.getElem?_cons_succ, List.getElem?_cons_zero]; rfl)); (focus (exact fun _ _ _ h => h)); first | (focus (refine Or.inl ⟨by rfl, ?_⟩; intro w hSw; (try dsimp only at hSw); (try dsimp only [Array.getD]); go_simp; (try with_reducible rfl))) | (focus (refine Or.inr ⟨by rfl, ?_⟩; rfl)) | fail "op 6"
                try simp only [Act.put, List.setIfInBounds_toArray, List.set_cons_zero, List.set_cons_succ]
                refine wpAnyH_ready (rs := [3]) (by kernel_rfl) (by simp) ?_
                refine AllReadyH.cons (o := ?_) ?_ (fun K hK => ?_) AllReadyH.nil; rotate_left; (focus (simp only [List.getElem?_toArray, List.getElem?_cons_succ, List.getElem?_cons_zero]; rfl))
                go_simp
                go_at_call 12
                refine (add_calls _ p (some b) m L (HR5.out.grow hz0).one.at_ Hm.out (fun z => by cases z) hL600 q Hqw.out.2.2.1 _ ns (Hn.out _ (HR5.out.one.gr.tr hz0)) (by omega)).mono ?_
                rintro e w6 ⟨rfl, ha6, hb6⟩
                have HR6 := Lib.hid ((HR5.out.grow hz0).pkg ha6 hb6)
                rw [EAO.out]
                refine hK.out _ _ (hHeld.tr (hb6.mono fun k _ z => .inl (by injection z with z; exact z.symm))) (fun hHeld => ?_)
                clear hK K
                try simp only [Act.put, List.setIfInBounds_toArray, List.set_cons_zero, List.set_cons_succ]
                refine wpAnyH_ready (rs := [7]) (by kernel_rfl) (by simp) ?_
                refine AllReadyH.cons (o := ?_) ?_ (fun K hK => ?_) AllReadyH.nil; rotate_left; (focus (simp only [List.getElem?_toArray, List.getElem?_cons_succ, List.getElem?_cons_zero]; rfl))
                go_simp
                go_at_call 26
                refine (radd_calls _ r N m v L HR6.out.rf hL600 q _ ns (Hn.out _ HR6.out.one.gr) (by omega)).mono ?_
                rintro e w7 ⟨rfl, v7, hr7, hb7⟩
                have HR7 := Lib.hid (HR6.out.ref hr7 hb7)
                rw [EAO.out]
                refine hK.out _ _ (hHeld.tr (hb7.mono fun k _ z => .inr z)) (fun hHeld => ?_)
                clear hK K
                try simp only [Act.put, List.setIfInBounds_toArray, List.set_cons_zero, List.set_cons_succ]
                refine wpAnyH_take (i := 8) (oi := ?_) (v := ?_) ?_ (by kernel_rfl) (by kernel_rfl) (by kernel_rfl) ?_ ?_ (by assumption) ?_; rotate_left 2; (focus (simp only [List.getElem?_toArray, List.getElem?_cons_succ, List.getElem?_cons_zero]; rfl)); (focus (exact fun _ _ _ h => h)); first | (focus (refine Or.inl ⟨by rfl, ?_⟩; intro w hSw; (try dsimp only at hSw); (try dsimp only [Array.getD]); go_simp; (try with_reducible rfl))) | (focus (refine Or.inr ⟨by rfl, ?_⟩; rfl)) | fail "op 8"
                try simp only [Act.put, List.setIfInBounds_toArray, List.set_cons_zero, List.set_cons_succ]
                refine wpAnyH_take (i := 9) (oi := ?_) (v := ?_) ?_ (by kernel_rfl) (by kernel_rfl) (by kernel_rfl) ?_ ?_ (by assumption) ?_; rotate_left 2; (focus (simp only [List.getElem?_toArray, List.getElem?_cons_succ, List.getElem?_cons_zero]; rfl)); (focus (exact fun _ _ _ h => h)); first | (focus (refine Or.inl ⟨by rfl, ?_⟩; intro w hSw; (try dsimp only at hSw); (try dsimp only [Array.getD]); go_simp; (try with_reducible rfl))) | (focus (refine Or.inr ⟨by rfl, ?_⟩; rfl)) | fail "op 9"
                try simp only [Act.put, List.setIfInBounds_toArray, List.set_cons_zero, List.set_cons_succ]
                refine wpAnyH_done (by kernel_rfl) ?_ _
                have HC := Lib.hid (show PlC w w7 p b r N m A9 A8 o q from ⟨PlI.add HR7.out hLm HLb.out, (hHeld.block A9 (blk_lt B95.out) (fun z => absurd (HX.out A9 z) (Nat.lt_irrefl _))).trans B95.out, (hHeld.block A8 (blk_lt B85.out) (fun z => by have := HX.out A8 z; have := HAw.out; omega)).trans B85.out⟩)
                clear hHeld hz0 hr7 hb7 ha6 hb6 HR6 HR7
                go_wp2_with fail
                go_meet
                exact ⟨by first | rfl | simp, HC.out⟩
          · as_aux_lemma =>
              skip
              obtain ⟨A7, eA7⟩ : ∃ A, w5.heap.size = A := ⟨_, rfl⟩
              have EA7 := Lib.hid eA7
              clear eA7
              go_upto_region 23 with (first | (refine wpList_load_rowg (by rfl) 31 (.tmp 12) rfl A8 rfl _ (ptC q).toArray (0, 0) _ B85.out Try.underlying31 rfl info_pt ?_) | (refine wpList_lit_pt2 rfl (.tmp 71) (.tmp 72) rfl q q rfl rfl (fun w6 e6 => ?_); have hg6 : Gr w5 w6 := (by rw [← e6]; exact Gr.al Gr.rfl' _); have b6 : w6.heap[w5.heap.size]? = some (.cells (ptC q ++ ptC q).toArray 31 (0, 0)) := (by rw [← e6]; exact heap_alloc_new w5 _); rw [EA7.out] at b6 ⊢; have G6 := Lib.hid hg6; have B6 := Lib.hid b6; clear hg6 b6 e6))
              have hg6 := G6.out
              have b6 := B6.out
              have HL7 := Lib.hid (show rdRow w6 6 (.slice (some ⟨A7, 0, none⟩) 2 2) [q, q].length (encP [q, q]) from ⟨rfl, _, 2, rfl, Nat.le_refl _, fun _ => ⟨A7, 0, rfl, fun j u hu => by rw [Nat.zero_add, cell_of_row w6 A7 j _ _ _ b6]; simpa using hu⟩⟩)
              have HR6 := Lib.hid (HR5.out.grow hg6)
              have B96 := Lib.hid (hg6.blk B95.out)
              have B86 := Lib.hid (hg6.blk B85.out)
              have C96 := Lib.hid (keepc hg6 C91.out)
              have HA7 := Lib.hid (show A9 < A7 by have := blk_lt B95.out; have := EA7.out; omega)
              clear hg6 b6 G6 B6
              refine region_start (S := fun w' => Bt (fun k => k = b ∨ k = r ∨ v.ownBlock = some k) w6 w') (by kernel_rfl) (by exact Bt.of (Gr.dr Gr.rfl')) (fun wz hz0 hHeld => ?_)
              simp only [List.size_toArray, List.length_cons, List.length_nil, Nat.reduceAdd]
              refine wpAnyH_take (i := 0) (oi := ?_) (v := ?_) ?_ (by kernel_rfl) (by kernel_rfl) (by kernel_rfl) ?_ ?_ (by assumption) ?_; rotate_left 2; (focus (simp only [List.getElem?_toArray, List.getElem?_cons_zero]; rfl)); (focus (exact fun _ _ _ h => h)); first | (focus (refine Or.inl ⟨by rfl, ?_⟩; intro w hSw; (try dsimp only at hSw); (try dsimp only [Array.getD]); go_simp; (try with_reducible rfl))) | (focus (refine Or.inr ⟨by rfl, ?_⟩; rfl)) | fail "op 0"
              try simp only [Act.put, List.setIfInBounds_toArray, List.set_cons_zero, List.set_cons_succ]
              refine wpAnyH_take (i := 1) (oi := ?_) (v := ?_) ?_ (by kernel_rfl) (by kernel_rfl) (by kernel_rfl) ?_ ?_ (by assumption) ?_; rotate_left 2; (focus (simp only [List.getElem?_toArray, List.getElem?_cons_succ, List.getElem?_cons_zero]; rfl)); (focus (exact fun _ _ _ h => h)); first | (focus (refine Or.inl ⟨by rfl, ?_⟩; intro w hSw; (try dsimp only at hSw); (try dsimp only [Array.getD]); go_simp; (try with_reducible rfl))) | (focus (refine Or.inr ⟨by rfl, ?_⟩; rfl)) | fail "op 1"
              try simp only [Act.put, List.setIfInBounds_toArray, List.set_cons_zero, List.set_cons_succ]
              refine wpAnyH_take (i := 2) (oi := ?_) (v := ?_) ?_ (by kernel_rfl) (by kernel_rfl) (by kernel_rfl) ?_ ?_ (by assumption) ?_; rotate_left 2; (focus (simp only [List.getElem?_toArray, List.getElem?_cons_succ, List.getElem?_cons_zero]; rfl)); (focus (exact fun _ _ _ h => h)); first | (focus (refine Or.inl ⟨by rfl, ?_⟩; intro w hSw; (try dsimp only at hSw); have c91 := hSw.cell (p := ⟨A9, 1, none⟩) (fun z => absurd (HX.out A9 z) (Nat.lt_irrefl _)) C96.out; (try dsimp only [Array.getD]); go_simp; (try with_reducible rfl))) | (focus (refine Or.inr ⟨by rfl, ?_⟩; rfl)) | fail "op 2"
              try simp only [Act.put, List.setIfInBounds_toArray, List.set_cons_zero, List.set_cons_succ]
              refine wpAnyH_take (i := 3) (oi := ?_) (v := ?_) ?_ (by kernel_rfl) (by kernel_rfl) (by kernel_rfl) ?_ ?_ (by assumption) ?_; rotate_left 2; (focus (simp only [List.getElem?_toArray, List.getElem?_cons_succ, List.getElem?_cons_zero]; rfl)); (focus (exact fun _ _ _ h => h)); first | (focus (refine Or.inl ⟨by rfl, ?_⟩; intro w hSw; (try dsimp only at hSw); (try dsimp only [Array.getD]); go_simp; (try with_reducible rfl))) | (focus (refine Or.inr ⟨by rfl, ?_⟩; rfl)) | fail "op 3"
              try simp only [Act.put, List.setIfInBounds_toArray, List.set_cons_zero, List.set_cons_succ]
              refine wpAnyH_take (i := 5) (oi := ?_) (v := ?_) ?_ (by kernel_rfl) (by kernel_rfl) (by kernel_rfl) ?_ ?_ (by assumption) ?_; rotate_left 2; (focus (simp only [List.getElem?_toArray, List.getElem?_cons_succ, List.getElem?_cons_zero]; rfl)); (focus (exact fun _ _ _ h => h)); first | (focus (refine Or.inl ⟨by rfl, ?_⟩; intro w hSw; (try dsimp only at hSw); (try dsimp only [Array.getD]); go_simp; (try with_reducible rfl))) | (focus (refine Or.inr ⟨by rfl, ?_⟩; rfl)) | fail "op 5"
              try simp only [Act.put, List.setIfInBounds_toArray, List.set_cons_zero, List.set_cons_succ]
              refine wpAnyH_take (i := 6) (oi := ?_) (v := ?_) ?_ (by kernel_rfl) (by kernel_rfl) (by kernel_rfl) ?_ ?_ (by assumption) ?_; rotate_left 2; (focus (simp only [List.getElem?_toArray, List.getElem?_cons_succ, List.getElem?_cons_zero]; rfl)); (focus (exact fun _ _ _ h => h)); first | (focus (refine Or.inl ⟨by rfl, ?_⟩; intro w hSw; (try dsimp only at hSw); (try dsimp only [Array.getD]); go_simp; (try with_reducible rfl))) | (focus (refine Or.inr ⟨by rfl, ?_⟩; rfl)) | fail "op 6"
              try simp only [Act.put, List.setIfInBounds_toArray, List.set_cons_zero, List.set_cons_succ]
              refine wpAnyH_take (i := 7) (oi := ?_) (v := ?_) ?_ (by kernel_rfl) (by kernel_rfl) (by kernel_rfl) ?_ ?_ (by assumption) ?_; rotate_left 2; (focus (simp only [List.getElem?_toArray, List.getElem?_cons_succ, List.getElem?_cons_zero]; rfl)); (focus (exact fun _ _ _ h => h)); first | (focus (refine Or.inl ⟨by rfl, ?_⟩; intro w hSw; (try dsimp only at hSw); have c91 := hSw.cell (p := ⟨A9, 1, none⟩) (fun z => absurd (HX.out A9 z) (Nat.lt_irrefl _)) C96.out; (try dsimp only [Array.getD]); go_simp; (try with_reducible rfl))) | (focus (refine Or.inr ⟨by rfl, ?_⟩; rfl)) | fail "op 7"
              try simp only [Act.put, List.setIfInBounds_toArray, List.set_cons_zero, List.set_cons_succ]
              refine wpAnyH_take (i := 8) (oi := ?_) (v := ?_) ?_ (by kernel_rfl) (by kernel_rfl) (by kernel_rfl) ?_ ?_ (by assumption) ?_; rotate_left 2; (focus (simp only [List.getElem?_toArray, List.getElem?_cons_succ, List.getElem?_cons_zero]; rfl)); (focus (exact fun _ _ _ h => h)); first | (focus (refine Or.inl ⟨by rfl, ?_⟩; intro w hSw; (try dsimp only at hSw); (try dsimp only [Array.getD]); go_simp; (try with_reducible rfl))) | (focus (refine Or.inr ⟨by rfl, ?_⟩; rfl)) | fail "op 8"
              try simp only [Act.put, List.setIfInBounds_toArray, List.set_cons_zero, List.set_cons_succ]
              refine wpAnyH_ready (rs := [4]) (by kernel_rfl) (by simp) ?_
              refine AllReadyH.cons (o := ?_) ?_ (fun K hK => ?_) AllReadyH.nil; rotate_left; (focus (simp only [List.getElem?_toArray, List.getElem?_cons_succ, List.getElem?_cons_zero]; rfl))
              go_simp
              go_at_call 16
              refine (ack_calls _ p (some b) m L (HR6.out.grow hz0).one.at_ hL600 o.n Ho.out.2.1 _ [q, q] (HL7.out.gr hz0) (show 2 ≤ 1000000 by decide) (fun x hx => by simp only [List.mem_cons, List.not_mem_nil, or_false, or_self] at hx; rw [hx]; exact Hqw.out) (fun a n c e z => by have e1 := (Value.slice.inj e).1; injection e1 with e1; injection z with z; have := HX.out b (.inl rfl); have := HA7.out; rw [← e1] at z; have z' : b = A7 := z; omega)).mono ?_
              rintro e w7 ⟨rfl, ha7, hb7⟩
              have HR7 := Lib.hid ((HR6.out.grow hz0).pkg ha7 hb7)
              refine hK.out _ _ (hHeld.tr (hb7.mono fun k _ z => .inl (by injection z with z; exact z.symm))) (fun hHeld => ?_)
              clear hK K
              try simp only [Act.put, List.setIfInBounds_toArray, List.set_cons_zero, List.set_cons_succ]
              refine wpAnyH_ready (rs := [9]) (by kernel_rfl) (by simp) ?_
              refine AllReadyH.cons (o := ?_) ?_ (fun K hK => ?_) AllReadyH.nil; rotate_left; (focus (simp only [List.getElem?_toArray, List.getElem?_cons_succ, List.getElem?_cons_zero]; rfl))
              go_simp
              go_at_call 24
              refine (rack_calls _ r N m v L HR7.out.rf (by omega) o.n _ [q, q] (HL7.out.bt hHeld (fun a n c e _ z => by have e1 := (Value.slice.inj e).1; injection e1 with e1; have h9 := HX.out _ z; rw [← e1] at h9; have h8 := HA7.out; have h9' : A7 < A9 := h9; omega)) (show 2 ≤ 1000000 by decide)).mono ?_
              rintro e w8 ⟨rfl, v8, hr8, hb8⟩
              have HR8 := Lib.hid (HR7.out.ref hr8 (hb8.mono fun k _ z => .inl z))
              refine hK.out _ _ (hHeld.tr (hb8.mono fun k _ z => .inr (.inl z))) (fun hHeld => ?_)
              clear hK K
              try simp only [Act.put, List.setIfInBounds_toArray, List.set_cons_zero, List.set_cons_succ]
              refine wpAnyH_take (i := 10) (oi := ?_) (v := ?_) ?_ (by kernel_rfl) (by kernel_rfl) (by kernel_rfl) ?_ ?_ (by assumption) ?_; rotate_left 2; (focus (simp only [List.getElem?_toArray, List.getElem?_cons_succ, List.getElem?_cons_zero]; rfl)); (focus (exact fun _ _ _ h => h)); first | (focus (refine Or.inl ⟨by rfl, ?_⟩; intro w hSw; (try dsimp only at hSw); (try dsimp only [Array.getD]); go_simp; (try with_reducible rfl))) | (focus (refine Or.inr ⟨by rfl, ?_⟩; rfl)) | fail "op 10"
              try simp only [Act.put, List.setIfInBounds_toArray, List.set_cons_zero, List.set_cons_succ]
              refine wpAnyH_take (i := 11) (oi := ?_) (v := ?_) ?_ (by kernel_rfl) (by kernel_rfl) (by kernel_rfl) ?_ ?_ (by assumption) ?_; rotate_left 2; (focus (simp only [List.getElem?_toArray, List.getElem?_cons_succ, List.getElem?_cons_zero]; rfl)); (focus (exact fun _ _ _ h => h)); first | (focus (refine Or.inl ⟨by rfl, ?_⟩; intro w hSw; (try dsimp only at hSw); (try dsimp only [Array.getD]); go_simp; (try with_reducible rfl))) | (focus (refine Or.inr ⟨by rfl, ?_⟩; rfl)) | fail "op 11"
              try simp only [Act.put, List.setIfInBounds_toArray, List.set_cons_zero, List.set_cons_succ]
              refine wpAnyH_done (by kernel_rfl) ?_ _
              have HC := Lib.hid (show PlC w w8 p b r N m A9 A8 o q from ⟨PlI.ack HR8.out hLm HLb.out, (hHeld.block A9 (blk_lt B96.out) (fun z => absurd (HX.out A9 z) (Nat.lt_irrefl _))).trans B96.out, (hHeld.block A8 (blk_lt B86.out) (fun z => by have := HX.out A8 z; have := HAw.out; omega)).trans B86.out⟩)
              clear hHeld hz0 hr8 hb8 ha7 hb7 HR7 HR8
              go_wp2_with fail
              go_meet
              exact ⟨by first | rfl | simp, HC.out⟩
          · as_aux_lemma =>
              skip
              obtain ⟨A7, eA7⟩ : ∃ A, w5.heap.size = A := ⟨_, rfl⟩
              have EA7 := Lib.hid eA7
              clear eA7
              go_upto_region 23 with (first | (refine wpList_load_rowg (by rfl) 31 (.tmp 12) rfl A8 rfl _ (ptC q).toArray (0, 0) _ B85.out Try.underlying31 rfl info_pt ?_) | (refine wpList_lit_pt2 rfl (.tmp 71) (.tmp 72) rfl q q rfl rfl (fun w6 e6 => ?_); have hg6 : Gr w5 w6 := (by rw [← e6]; exact Gr.al Gr.rfl' _); have b6 : w6.heap[w5.heap.size]? = some (.cells (ptC q ++ ptC q).toArray 31 (0, 0)) := (by rw [← e6]; exact heap_alloc_new w5 _); rw [EA7.out] at b6 ⊢; have G6 := Lib.hid hg6; have B6 := Lib.hid b6; clear hg6 b6 e6))
              have hg6 := G6.out
              have b6 := B6.out
              have HL7 := Lib.hid (show rdRow w6 6 (.slice (some ⟨A7, 0, none⟩) 2 2) [q, q].length (encP [q, q]) from ⟨rfl, _, 2, rfl, Nat.le_refl _, fun _ => ⟨A7, 0, rfl, fun j u hu => by rw [Nat.zero_add, cell_of_row w6 A7 j _ _ _ b6]; simpa using hu⟩⟩)
              have HR6 := Lib.hid (HR5.out.grow hg6)
              have B96 := Lib.hid (hg6.blk B95.out)
              have B86 := Lib.hid (hg6.blk B85.out)
              have C96 := Lib.hid (keepc hg6 C91.out)
              have HA7 := Lib.hid (show A9 < A7 by have := blk_lt B95.out; have := EA7.out; omega)
              clear hg6 b6 G6 B6
              refine region_start (S := fun w' => Bt (fun k => k = b ∨ k = r ∨ v.ownBlock = some k) w6 w') (by kernel_rfl) (by exact Bt.of (Gr.dr Gr.rfl')) (fun wz hz0 hHeld => ?_)
              simp only [List.size_toArray, List.length_cons, List.length_nil, Nat.reduceAdd]
              refine wpAnyH_take (i := 0) (oi := ?_) (v := ?_) ?_ (by kernel_rfl) (by kernel_rfl) (by kernel_rfl) ?_ ?_ (by assumption) ?_; rotate_left 2; (focus (simp only [List.getElem?_toArray, List.getElem?_cons_zero]; rfl)); (focus (exact fun _ _ _ h => h)); first | (focus (refine Or.inl ⟨by rfl, ?_⟩; intro w hSw; (try dsimp only at hSw); (try dsimp only [Array.getD]); go_simp; (try with_reducible rfl))) | (focus (refine Or.inr ⟨by rfl, ?_⟩; rfl)) | fail "op 0"
              try simp only [Act.put, List.setIfInBounds_toArray, List.set_cons_zero, List.set_cons_succ]
              refine wpAnyH_take (i := 1) (oi := ?_) (v := ?_) ?_ (by kernel_rfl) (by kernel_rfl) (by kernel_rfl) ?_ ?_ (by assumption) ?_; rotate_left 2; (focus (simp only [List.getElem?_toArray, List.getElem?_cons_succ, List.getElem?_cons_zero]; rfl)); (focus (exact fun _ _ _ h => h)); first | (focus (refine Or.inl ⟨by rfl, ?_⟩; intro w hSw; (try dsimp only at hSw); (try dsimp only [Array.getD]); go_simp; (try with_reducible rfl))) | (focus (refine Or.inr ⟨by rfl, ?_⟩; rfl)) | fail "op 1"
              try simp only [Act.put, List.setIfInBounds_toArray, List.set_cons_zero, List.set_cons_succ]
              refine wpAnyH_take (i := 2) (oi := ?_) (v := ?_) ?_ (by kernel_rfl) (by kernel_rfl) (by kernel_rfl) ?_ ?_ (by assumption) ?_; rotate_left 2; (focus (simp only [List.getElem?_toArray, List.getElem?_cons_succ, List.getElem?_cons_zero]; rfl)); (focus (exact fun _ _ _ h => h)); first | (focus (refine Or.inl ⟨by rfl, ?_⟩; intro w hSw; (try dsimp only at hSw); have c91 := hSw.cell (p := ⟨A9, 1, none⟩) (fun z => absurd (HX.out A9 z) (Nat.lt_irrefl _)) C96.out; (try dsimp only [Array.getD]); go_simp; (try with_reducible rfl))) | (focus (refine Or.inr ⟨by rfl, ?_⟩; rfl)) | fail "op 2"
              try simp only [Act.put, List.setIfInBounds_toArray, List.set_cons_zero, List.set_cons_succ]
              refine wpAnyH_take (i := 3) (oi := ?_) (v := ?_) ?_ (by kernel_rfl) (by kernel_rfl) (by kernel_rfl) ?_ ?_ (by assumption) ?_; rotate_left 2; (focus (simp only [List.getElem?_toArray, List.getElem?_cons_succ, List.getElem?_cons_zero]; rfl)); (focus (exact fun _ _ _ h => h)); first | (focus (refine Or.inl ⟨by rfl, ?_⟩; intro w hSw; (try dsimp only at hSw); (try dsimp only [Array.getD]); go_simp; (try with_reducible rfl))) | (focus (refine Or.inr ⟨by rfl, ?_⟩; rfl)) | fail "op 3"
              try simp only [Act.put, List.setIfInBounds_toArray, List.set_cons_zero, List.set_cons_succ]
              refine wpAnyH_take (i := 5) (oi := ?_) (v := ?_) ?_ (by kernel_rfl) (by kernel_rfl) (by kernel_rfl) ?_ ?_ (by assumption) ?_; rotate_left 2; (focus (simp only [List.getElem?_toArray, List.getElem?_cons_succ, List.getElem?_cons_zero]; rfl)); (focus (exact fun _ _ _ h => h)); first | (focus (refine Or.inl ⟨by rfl, ?_⟩; intro w hSw; (try dsimp only at hSw); (try dsimp only [Array.getD]); go_simp; (try with_reducible rfl))) | (focus (refine Or.inr ⟨by rfl, ?_⟩; rfl)) | fail "op 5"
              try simp only [Act.put, List.setIfInBounds_toArray, List.set_cons_zero, List.set_cons_succ]
              refine wpAnyH_take (i := 6) (oi := ?_) (v := ?_) ?_ (by kernel_rfl) (by kernel_rfl) (by kernel_rfl) ?_ ?_ (by assumption) ?_; rotate_left 2; (focus (simp only [List.getElem?_toArray, List.getElem?_cons_succ, List.getElem?_cons_zero]; rfl)); (focus (exact fun _ _ _ h => h)); first | (focus (refine Or.inl ⟨by rfl, ?_⟩; intro w hSw; (try dsimp only at hSw); (try dsimp only [Array.getD]); go_simp; (try with_reducible rfl))) | (focus (refine Or.inr ⟨by rfl, ?_⟩; rfl)) | fail "op 6"
              try simp only [Act.put, List.setIfInBounds_toArray, List.set_cons_zero, List.set_cons_succ]
              refine wpAnyH_take (i := 7) (oi := ?_) (v := ?_) ?_ (by kernel_rfl) (by kernel_rfl) (by kernel_rfl) ?_ ?_ (by assumption) ?_; rotate_left 2; (focus (simp only [List.getElem?_toArray, List.getElem?_cons_succ, List.getElem?_cons_zero]; rfl)); (focus (exact fun _ _ _ h => h)); first | (focus (refine Or.inl ⟨by rfl, ?_⟩; intro w hSw; (try dsimp only at hSw); have c91 := hSw.cell (p := ⟨A9, 1, none⟩) (fun z => absurd (HX.out A9 z) (Nat.lt_irrefl _)) C96.out; (try dsimp only [Array.getD]); go_simp; (try with_reducible rfl))) | (focus (refine Or.inr ⟨by rfl, ?_⟩; rfl)) | fail "op 7"
              try simp only [Act.put, List.setIfInBounds_toArray, List.set_cons_zero, List.set_cons_succ]
              refine wpAnyH_take (i := 8) (oi := ?_) (v := ?_) ?_ (by kernel_rfl) (by kernel_rfl) (by kernel_rfl) ?_ ?_ (by assumption) ?_; rotate_left 2; (focus (simp only [List.getElem?_toArray, List.getElem?_cons_succ, List.getElem?_cons_zero]; rfl)); (focus (exact fun _ _ _ h => h)); first | (focus (refine Or.inl ⟨by rfl, ?_⟩; intro w hSw; (try dsimp only at hSw); (try dsimp only [Array.getD]); go_simp; (try with_reducible rfl))) | (focus (refine Or.inr ⟨by rfl, ?_⟩; rfl)) | fail "op 8"
              try simp only [Act.put, List.setIfInBounds_toArray, List.set_cons_zero, List.set_cons_succ]
              refine wpAnyH_ready (rs := [4]) (by kernel_rfl) (by simp) ?_
              refine AllReadyH.cons (o := ?_) ?_ (fun K hK => ?_) AllReadyH.nil; rotate_left; (focus (simp only [List.getElem?_toArray, List.getElem?_cons_succ, List.getElem?_cons_zero]; rfl))
              go_simp
              go_at_call 16
              refine (ack_calls _ p (some b) m L (HR6.out.grow hz0).one.at_ hL600 o.n Ho.out.2.1 _ [q, q] (HL7.out.gr hz0) (show 2 ≤ 1000000 by decide) (fun x hx => by simp only [List.mem_cons, List.not_mem_nil, or_false, or_self] at hx; rw [hx]; exact Hqw.out) (fun a n c e z => by have e1 := (Value.slice.inj e).1; injection e1 with e1; injection z with z; have := HX.out b (.inl rfl); have := HA7.out; rw [← e1] at z; have z' : b = A7 := z; omega)).mono ?_
              rintro e w7 ⟨rfl, ha7, hb7⟩
              have HR7 := Lib.hid ((HR6.out.grow hz0).pkg ha7 hb7)
              refine hK.out _ _ (hHeld.tr (hb7.mono fun k _ z => .inl (by injection z with z; exact z.symm))) (fun hHeld => ?_)
              clear hK K
              try simp only [Act.put, List.setIfInBounds_toArray, List.set_cons_zero, List.set_cons_succ]
              refine wpAnyH_ready (rs := [9]) (by kernel_rfl) (by simp) ?_
              refine AllReadyH.cons (o := ?_) ?_ (fun K hK => ?_) AllReadyH.nil; rotate_left; (focus (simp only [List.getElem?_toArray, List.getElem?_cons_succ, List.getElem?_cons_zero]; rfl))
              go_simp
              go_at_call 24
              refine (rack_calls _ r N m v L HR7.out.rf (by omega) o.n _ [q, q] (HL7.out.bt hHeld (fun a n c e _ z => by have e1 := (Value.slice.inj e).1; injection e1 with e1; have h9 := HX.out _ z; rw [← e1] at h9; have h8 := HA7.out; have h9' : A7 < A9 := h9; omega)) (show 2 ≤ 1000000 by decide)).mono ?_
              rintro e w8 ⟨rfl, v8, hr8, hb8⟩
              have HR8 := Lib.hid (HR7.out.ref hr8 (hb8.mono fun k _ z => .inl z))
              refine hK.out _ _ (hHeld.tr (hb8.mono fun k _ z => .inr (.inl z))) (fun hHeld => ?_)
              clear hK K
              try simp only [Act.put, List.setIfInBounds_toArray, List.set_cons_zero, List.set_cons_succ]
              refine wpAnyH_take (i := 10) (oi := ?_) (v := ?_) ?_ (by kernel_rfl) (by kernel_rfl) (by kernel_rfl) ?_ ?_ (by assumption) ?_; rotate_left 2; (focus (simp only [List.getElem?_toArray, List.getElem?_cons_succ, List.getElem?_cons_zero]; rfl)); (focus (exact fun _ _ _ h => h)); first | (focus (refine Or.inl ⟨by rfl, ?_⟩; intro w hSw; (try dsimp only at hSw); (try dsimp only [Array.getD]); go_simp; (try with_reducible rfl))) | (focus (refine Or.inr ⟨by rfl, ?_⟩; rfl)) | fail "op 10"
              try simp only [Act.put, List.setIfInBounds_toArray, List.set_cons_zero, List.set_cons_succ]
              refine wpAnyH_take (i := 11) (oi := ?_) (v := ?_) ?_ (by kernel_rfl) (by kernel_rfl) (by kernel_rfl) ?_ ?_ (by assumption) ?_; rotate_left 2; (focus (simp only [List.getElem?_toArray, List.getElem?_cons_succ, List.getElem?_cons_zero]; rfl)); (focus (exact fun _ _ _ h => h)); first | (focus (refine Or.inl ⟨by rfl, ?_⟩; intro w hSw; (try dsimp only at hSw); (try dsimp only [Array.getD]); go_simp; (try with_reducible rfl))) | (focus (refine Or.inr ⟨by rfl, ?_⟩; rfl)) | fail "op 11"
              try simp only [Act.put, List.setIfInBounds_toArray, List.set_cons_zero, List.set_cons_succ]
              refine wpAnyH_done (by kernel_rfl) ?_ _
              have HC := Lib.hid (show PlC w w8 p b r N m A9 A8 o q from ⟨PlI.ack HR8.out hLm HLb.out, (hHeld.block A9 (blk_lt B96.out) (fun z => absurd (HX.out A9 z) (Nat.lt_irrefl _))).trans B96.out, (hHeld.block A8 (blk_lt B86.out) (fun z => by have := HX.out A8 z; have := HAw.out; omega)).trans B86.out⟩)
              clear hHeld hz0 hr8 hb8 ha7 hb7 HR7 HR8
              go_wp2_with fail
              go_meet
              exact ⟨by first | rfl | simp, HC.out⟩
          · as_aux_lemma =>
              skip
              go_upto_region 25 with (fail)
              refine region_start (S := fun w' => Bt (fun k => k = b ∨ k = r ∨ v.ownBlock = some k) w5 w') (by kernel_rfl) (by exact Bt.of (Gr.dr Gr.rfl')) (fun wz hz0 hHeld => ?_)
              simp only [List.size_toArray, List.length_cons, List.length_nil, Nat.reduceAdd]
              refine wpAnyH_take (i := 0) (oi := ?_) (v := ?_) ?_ (by kernel_rfl) (by kernel_rfl) (by kernel_rfl) ?_ ?_ (by assumption) ?_; rotate_left 2; (focus (simp only [List.getElem?_toArray, List.getElem?_cons_zero]; rfl)); (focus (exact fun _ _ _ h => h)); first | (focus (refine Or.inl ⟨by rfl, ?_⟩; intro w hSw; (try dsimp only at hSw); (try dsimp only [Array.getD]); go_simp; (try with_reducible rfl))) | (focus (refine Or.inr ⟨by rfl, ?_⟩; rfl)) | fail "op 0"
              try simp only [Act.put, List.setIfInBounds_toArray, List.set_cons_zero, List.set_cons_succ]
              refine wpAnyH_take (i := 1) (oi := ?_) (v := ?_) ?_ (by kernel_rfl) (by kernel_rfl) (by kernel_rfl) ?_ ?_ (by assumption) ?_; rotate_left 2; (focus (simp only [List.getElem?_toArray, List.getElem?_cons_succ, List.getElem?_cons_zero]; rfl)); (focus (exact fun _ _ _ h => h)); first | (focus (refine Or.inl ⟨by rfl, ?_⟩; intro w hSw; (try dsimp only at hSw); (try dsimp only [Array.getD]); go_simp; (try with_reducible rfl))) | (focus (refine Or.inr ⟨by rfl, ?_⟩; rfl)) | fail "op 1"
              try simp only [Act.put, List.setIfInBounds_toArray, List.set_cons_zero, List.set_cons_succ]
              refine wpAnyH_take (i := 2) (oi := ?_) (v := ?_) ?_ (by kernel_rfl) (by kernel_rfl) (by kernel_rfl) ?_ ?_ (by assumption) ?_; rotate_left 2; (focus (simp only [List.getElem?_toArray, List.getElem?_cons_succ, List.getElem?_cons_zero]; rfl)); (focus (exact fun _ _ _ h => h)); first | (focus (refine Or.inl ⟨by rfl, ?_⟩; intro w hSw; (try dsimp only at hSw); have c91 := hSw.cell (p := ⟨A9, 1, none⟩) (fun z => absurd (HX.out A9 z) (Nat.lt_irrefl _)) C91.out; (try dsimp only [Array.getD]); go_simp; (try with_reducible rfl))) | (focus (refine Or.inr ⟨by rfl, ?_⟩; rfl)) | fail "op 2"
              try simp only [Act.put, List.setIfInBounds_toArray, List.set_cons_zero, List.set_cons_succ]
              refine wpAnyH_take (i := 4) (oi := ?_) (v := ?_) ?_ (by kernel_rfl) (by kernel_rfl) (by kernel_rfl) ?_ ?_ (by assumption) ?_; rotate_left 2; (focus (simp only [List.getElem?_toArray, List.getElem?_cons_succ, List.getElem?_cons_zero]; rfl)); (focus (exact fun _ _ _ h => h)); first | (focus (refine Or.inl ⟨by rfl, ?_⟩; intro w hSw; (try dsimp only at hSw); (try dsimp only [Array.getD]); go_simp; (try with_reducible rfl))) | (focus (refine Or.inr ⟨by rfl, ?_⟩; rfl)) | fail "op 4"
              try simp only [Act.put, List.setIfInBounds_toArray, List.set_cons_zero, List.set_cons_succ]
              refine wpAnyH_take (i := 5) (oi := ?_) (v := ?_) ?_ (by kernel_rfl) (by kernel_rfl) (by kernel_rfl) ?_ ?_ (by assumption) ?_; rotate_left 2; (focus (simp only [List.getElem?_toArray, List.getElem?_cons_succ, List.getElem?_cons_zero]; rfl)); (focus (exact fun _ _ _ h => h)); first | (focus (refine Or.inl ⟨by rfl, ?_⟩; intro w hSw; (try dsimp only at hSw); (try dsimp only [Array.getD]); go_simp; (try with_reducible rfl))) | (focus (refine Or.inr ⟨by rfl, ?_⟩; rfl)) | fail "op 5"
              try simp only [Act.put, List.setIfInBounds_toArray, List.set_cons_zero, List.set_cons_succ]
              refine wpAnyH_take (i := 6) (oi := ?_) (v := ?_) ?_ (by kernel_rfl) (by kernel_rfl) (by kernel_rfl) ?_ ?_ (by assumption) ?_; rotate_left 2; (focus (simp only [List.getElem?_toArray, List.getElem?_cons_succ, List.getElem?_cons_zero]; rfl)); (focus (exact fun _ _ _ h => h)); first | (focus (refine Or.inl ⟨by rfl, ?_⟩; intro w hSw; (try dsimp only at hSw); have c91 := hSw.cell (p := ⟨A9, 1, none⟩) (fun z => absurd (HX.out A9 z) (Nat.lt_irrefl _)) C91.out; (try dsimp only [Array.getD]); go_simp; (try with_reducible rfl))) | (focus (refine Or.inr ⟨by rfl, ?_⟩; rfl)) | fail "op 6"
              try simp only [Act.put, List.setIfInBounds_toArray, List.set_cons_zero, List.set_cons_succ]
              refine wpAnyH_ready (rs := [3]) (by kernel_rfl) (by simp) ?_
              refine AllReadyH.cons (o := ?_) ?_ (fun K hK => ?_) AllReadyH.nil; rotate_left; (focus (simp only [List.getElem?_toArray, List.getElem?_cons_succ, List.getElem?_cons_zero]; rfl))
              go_simp
              go_at_call 21
              refine (drop_calls _ p b m L (HR5.out.grow hz0).one.at_ hL600 o.n).mono ?_
              rintro e w6 ⟨rfl, ha6, hb6⟩
              have HR6 := Lib.hid ((HR5.out.grow hz0).pkg ha6 (hb6.mono fun k _ z => by rw [z]))
              refine hK.out _ _ (hHeld.tr (hb6.mono fun k _ z => .inl z)) (fun hHeld => ?_)
              clear hK K
              try simp only [Act.put, List.setIfInBounds_toArray, List.set_cons_zero, List.set_cons_succ]
              refine wpAnyH_ready (rs := [7]) (by kernel_rfl) (by simp) ?_
              refine AllReadyH.cons (o := ?_) ?_ (fun K hK => ?_) AllReadyH.nil; rotate_left; (focus (simp only [List.getElem?_toArray, List.getElem?_cons_succ, List.getElem?_cons_zero]; rfl))
              go_simp
              go_at_call 25
              refine (rdrop_calls _ r N m v L HR6.out.rf (by omega) o.n).mono ?_
              rintro e w7 ⟨rfl, v7, hr7, hb7⟩
              have HR7 := Lib.hid (HR6.out.ref hr7 (hb7.mono fun k _ z => .inl z))
              refine hK.out _ _ (hHeld.tr (hb7.mono fun k _ z => .inr (.inl z))) (fun hHeld => ?_)
              clear hK K
              try simp only [Act.put, List.setIfInBounds_toArray, List.set_cons_zero, List.set_cons_succ]
              refine wpAnyH_take (i := 8) (oi := ?_) (v := ?_) ?_ (by kernel_rfl) (by kernel_rfl) (by kernel_rfl) ?_ ?_ (by assumption) ?_; rotate_left 2; (focus (simp only [List.getElem?_toArray, List.getElem?_cons_succ, List.getElem?_cons_zero]; rfl)); (focus (exact fun _ _ _ h => h)); first | (focus (refine Or.inl ⟨by rfl, ?_⟩; intro w hSw; (try dsimp only at hSw); (try dsimp only [Array.getD]); go_simp; (try with_reducible rfl))) | (focus (refine Or.inr ⟨by rfl, ?_⟩; rfl)) | fail "op 8"
              try simp only [Act.put, List.setIfInBounds_toArray, List.set_cons_zero, List.set_cons_succ]
              refine wpAnyH_take (i := 9) (oi := ?_) (v := ?_) ?_ (by kernel_rfl) (by kernel_rfl) (by kernel_rfl) ?_ ?_ (by assumption) ?_; rotate_left 2; (focus (simp only [List.getElem?_toArray, List.getElem?_cons_succ, List.getElem?_cons_zero]; rfl)); (focus (exact fun _ _ _ h => h)); first | (focus (refine Or.inl ⟨by rfl, ?_⟩; intro w hSw; (try dsimp only at hSw); (try dsimp only [Array.getD]); go_simp; (try with_reducible rfl))) | (focus (refine Or.inr ⟨by rfl, ?_⟩; rfl)) | fail "op 9"
              try simp only [Act.put, List.setIfInBounds_toArray, List.set_cons_zero, List.set_cons_succ]
              refine wpAnyH_done (by kernel_rfl) ?_ _
              have HC := Lib.hid (show PlC w w7 p b r N m A9 A8 o q from ⟨PlI.drop HR7.out hLm HLb.out, (hHeld.block A9 (blk_lt B95.out) (fun z => absurd (HX.out A9 z) (Nat.lt_irrefl _))).trans B95.out, (hHeld.block A8 (blk_lt B85.out) (fun z => by have := HX.out A8 z; have := HAw.out; omega)).trans B85.out⟩)
              clear hHeld hz0 hr7 hb7 ha6 hb6 HR6 HR7
              go_wp2_with fail
              go_meet
              exact ⟨by first | rfl | simp, HC.out⟩
        case rest =>
          obtain ⟨rfl, hC⟩ := hcut
          clear HX HLb hLm HR5 B95 B85 C91 hL600 hk0 hk4
          obtain ⟨⟨v, L, hR, hLm, hLb⟩, h9, h8⟩ := hC
          obtain ⟨lva, lvc, rfl⟩ := own_slice hR.rf.row
          have HR6 := Lib.hid hR
          have B96 := Lib.hid h9; have B86 := Lib.hid h8
          have hL600 : L.length ≤ 600 := by have := Hm.out.2; omega
          have HN1 := Lib.hid (show srt (nodesP L fun x => decide (x = q)) = nodesOf (nodesP L fun x => false || decide (x = q)) by rw [hLb.nodes]; simp)
          have HN2 := Lib.hid (show srt (L.map (·.2)) = nodesOf (nodesP L fun x => true || decide (x = q)) by
            rw [← hLb.nodes]; congr 1; unfold nodesP; rw [List.filter_eq_self.2 (fun _ _ => by simp)])
          have HB := Lib.hid hLb
          clear hR h9 h8 hLb
          go_upto_region 26 with (fail)
          refine region_start (S := fun w' => Gr wc w') (by kernel_rfl) (by exact Gr.dr Gr.rfl') (fun wz hz0 hHeld => ?_)
          simp only [List.size_toArray, List.length_cons, List.length_nil, Nat.reduceAdd]
          refine wpAnyH_take (i := 0) (oi := ?_) (v := ?_) ?_ (by kernel_rfl) (by kernel_rfl) (by kernel_rfl) ?_ ?_ (by assumption) ?_; rotate_left 2; (focus (simp only [List.getElem?_toArray, List.getElem?_cons_zero]; rfl)); (focus (exact fun _ _ _ h => h)); first | (focus (refine Or.inl ⟨by rfl, ?_⟩; intro w hSw; (try dsimp only at hSw); (try dsimp only [Array.getD]); go_simp; (try with_reducible rfl))) | (focus (refine Or.inr ⟨by rfl, ?_⟩; rfl)) | fail "op 0"
          try simp only [Act.put, List.setIfInBounds_toArray, List.set_cons_zero, List.set_cons_succ]
          refine wpAnyH_take (i := 1) (oi := ?_) (v := ?_) ?_ (by kernel_rfl) (by kernel_rfl) (by kernel_rfl) ?_ ?_ (by assumption) ?_; rotate_left 2; (focus (simp only [List.getElem?_toArray, List.getElem?_cons_succ, List.getElem?_cons_zero]; rfl)); (focus (exact fun _ _ _ h => h)); first | (focus (refine Or.inl ⟨by rfl, ?_⟩; intro w hSw; (try dsimp only at hSw); (try dsimp only [Array.getD]); go_simp; (try with_reducible rfl))) | (focus (refine Or.inr ⟨by rfl, ?_⟩; rfl)) | fail "op 1"
          try simp only [Act.put, List.setIfInBounds_toArray, List.set_cons_zero, List.set_cons_succ]
          refine wpAnyH_take (i := 2) (oi := ?_) (v := ?_) ?_ (by kernel_rfl) (by kernel_rfl) (by kernel_rfl) ?_ ?_ (by assumption) ?_; rotate_left 2; (focus (simp only [List.getElem?_toArray, List.getElem?_cons_succ, List.getElem?_cons_zero]; rfl)); (focus (exact fun _ _ _ h => h)); first | (focus (refine Or.inl ⟨by rfl, ?_⟩; intro w hSw; (try dsimp only at hSw); have c91 := keepc hSw ((cell_of_row _ _ 1 _ _ _ B96.out).trans rfl : wc.cell? ⟨A9, 1, none⟩ = some (.int .i64 o.n)); (try dsimp only [Array.getD]); go_simp; (try with_reducible rfl))) | (focus (refine Or.inr ⟨by rfl, ?_⟩; rfl)) | fail "op 2"
          try simp only [Act.put, List.setIfInBounds_toArray, List.set_cons_zero, List.set_cons_succ]
          refine wpAnyH_take (i := 3) (oi := ?_) (v := ?_) ?_ (by kernel_rfl) (by kernel_rfl) (by kernel_rfl) ?_ ?_ (by assumption) ?_; rotate_left 2; (focus (simp only [List.getElem?_toArray, List.getElem?_cons_succ, List.getElem?_cons_zero]; rfl)); (focus (exact fun _ _ _ h => h)); first | (focus (refine Or.inl ⟨by rfl, ?_⟩; intro w hSw; (try dsimp only at hSw); (try dsimp only [Array.getD]); go_simp; (try with_reducible rfl))) | (focus (refine Or.inr ⟨by rfl, ?_⟩; rfl)) | fail "op 3"
          try simp only [Act.put, List.setIfInBounds_toArray, List.set_cons_zero, List.set_cons_succ]
          refine wpAnyH_take (i := 5) (oi := ?_) (v := ?_) ?_ (by kernel_rfl) (by kernel_rfl) (by kernel_rfl) ?_ ?_ (by assumption) ?_; rotate_left 2; (focus (simp only [List.getElem?_toArray, List.getElem?_cons_succ, List.getElem?_cons_zero]; rfl)); (focus (exact fun _ _ _ h => h)); first | (focus (refine Or.inl ⟨by rfl, ?_⟩; intro w hSw; (try dsimp only at hSw); (try dsimp only [Array.getD]); go_simp; (try with_reducible rfl))) | (focus (refine Or.inr ⟨by rfl, ?_⟩; rfl)) | fail "op 5"
          try simp only [Act.put, List.setIfInBounds_toArray, List.set_cons_zero, List.set_cons_succ]
          refine wpAnyH_take (i := 6) (oi := ?_) (v := ?_) ?_ (by kernel_rfl) (by kernel_rfl) (by kernel_rfl) ?_ ?_ (by assumption) ?_; rotate_left 2; (focus (simp only [List.getElem?_toArray, List.getElem?_cons_succ, List.getElem?_cons_zero]; rfl)); (focus (exact fun _ _ _ h => h)); first | (focus (refine Or.inl ⟨by rfl, ?_⟩; intro w hSw; (try dsimp only at hSw); (try dsimp only [Array.getD]); go_simp; (try with_reducible rfl))) | (focus (refine Or.inr ⟨by rfl, ?_⟩; rfl)) | fail "op 6"
          try simp only [Act.put, List.setIfInBounds_toArray, List.set_cons_zero, List.set_cons_succ]
          refine wpAnyH_take (i := 7) (oi := ?_) (v := ?_) ?_ (by kernel_rfl) (by kernel_rfl) (by kernel_rfl) ?_ ?_ (by assumption) ?_; rotate_left 2; (focus (simp only [List.getElem?_toArray, List.getElem?_cons_succ, List.getElem?_cons_zero]; rfl)); (focus (exact fun _ _ _ h => h)); first | (focus (refine Or.inl ⟨by rfl, ?_⟩; intro w hSw; (try dsimp only at hSw); have c91 := keepc hSw ((cell_of_row _ _ 1 _ _ _ B96.out).trans rfl : wc.cell? ⟨A9, 1, none⟩ = some (.int .i64 o.n)); (try dsimp only [Array.getD]); go_simp; (try with_reducible rfl))) | (focus (refine Or.inr ⟨by rfl, ?_⟩; rfl)) | fail "op 7"
          try simp only [Act.put, List.setIfInBounds_toArray, List.set_cons_zero, List.set_cons_succ]
          refine wpAnyH_take (i := 8) (oi := ?_) (v := ?_) ?_ (by kernel_rfl) (by kernel_rfl) (by kernel_rfl) ?_ ?_ (by assumption) ?_; rotate_left 2; (focus (simp only [List.getElem?_toArray, List.getElem?_cons_succ, List.getElem?_cons_zero]; rfl)); (focus (exact fun _ _ _ h => h)); first | (focus (refine Or.inl ⟨by rfl, ?_⟩; intro w hSw; (try dsimp only at hSw); (try dsimp only [Array.getD]); go_simp; (try with_reducible rfl))) | (focus (refine Or.inr ⟨by rfl, ?_⟩; rfl)) | fail "op 8"
          try simp only [Act.put, List.setIfInBounds_toArray, List.set_cons_zero, List.set_cons_succ]
          refine wpAnyH_ready (rs := [4]) (by kernel_rfl) (by simp) ?_
          refine AllReadyH.cons (o := ?_) ?_ (fun K hK => ?_) AllReadyH.nil; rotate_left; (focus (simp only [List.getElem?_toArray, List.getElem?_cons_succ, List.getElem?_cons_zero]; rfl))
          go_simp
          go_at_call 15
          refine (for_calls _ p b m L (HR6.out.grow hHeld).one.at_ hL600 o.n most).mono ?_
          rintro e w7 ⟨vm, rfl, hrm, _, hg7⟩
          refine hK.out _ _ (hHeld.tr hg7) (fun hHeld => ?_)
          clear hK K
          try simp only [Act.put, List.setIfInBounds_toArray, List.set_cons_zero, List.set_cons_succ]
          refine wpAnyH_ready (rs := [9]) (by kernel_rfl) (by simp) ?_
          refine AllReadyH.cons (o := ?_) ?_ (fun K hK => ?_) AllReadyH.nil; rotate_left; (focus (simp only [List.getElem?_toArray, List.getElem?_cons_succ, List.getElem?_cons_zero]; rfl))
          go_simp
          go_at_call 27
          refine (rfor_calls _ r N m _ L (HR6.out.grow hHeld).rf (by omega) o.n most).mono ?_
          rintro e w8 ⟨vn, rfl, hrn, hg8⟩
          refine hK.out _ _ (hHeld.tr hg8) (fun hHeld => ?_)
          clear hK K
          try simp only [Act.put, List.setIfInBounds_toArray, List.set_cons_zero, List.set_cons_succ]
          refine wpAnyH_ready (rs := [10]) (by kernel_rfl) (by simp) ?_
          refine AllReadyH.cons (o := ?_) ?_ (fun K hK => ?_) AllReadyH.nil; rotate_left; (focus (simp only [List.getElem?_toArray, List.getElem?_cons_succ, List.getElem?_cons_zero]; rfl))
          go_simp
          go_at_call 22
          refine (samep_calls _ _ _ _ _ (hrm.gr hg8) hrn (by unfold forL; rw [List.length_take, srtH_len]; have := pointsOf_len L o.n; omega)).mono ?_
          rintro e w9 ⟨rfl, hg9⟩
          rw [decide_eq_true rfl]
          refine hK.out _ _ (hHeld.tr hg9) (fun hHeld => ?_)
          clear hK K
          try simp only [Act.put, List.setIfInBounds_toArray, List.set_cons_zero, List.set_cons_succ]
          refine wpAnyH_take (i := 11) (oi := ?_) (v := ?_) ?_ (by kernel_rfl) (by kernel_rfl) (by kernel_rfl) ?_ ?_ (by assumption) ?_; rotate_left 2; (focus (simp only [List.getElem?_toArray, List.getElem?_cons_succ, List.getElem?_cons_zero]; rfl)); (focus (exact fun _ _ _ h => h)); first | (focus (refine Or.inl ⟨by rfl, ?_⟩; intro w hSw; (try dsimp only at hSw); (try dsimp only [Array.getD]); go_simp; (try with_reducible rfl))) | (focus (refine Or.inr ⟨by rfl, ?_⟩; rfl)) | fail "op 11"
          try simp only [Act.put, List.setIfInBounds_toArray, List.set_cons_zero, List.set_cons_succ]
          refine wpAnyH_done (by kernel_rfl) ?_ _
          have HR7 := Lib.hid (HR6.out.grow hHeld)
          have B97 := Lib.hid (hHeld.blk B96.out); have B87 := Lib.hid (hHeld.blk B86.out)
          clear hHeld hz0 hrm hrn hg7 hg8 hg9 HR6 B96 B86
          obtain ⟨wd, ed⟩ : ∃ wd, w9 = wd := ⟨_, rfl⟩
          rw [ed] at HR7 B97 B87 ⊢
          clear ed
          go_upto_region 27 with (fail)
          refine region_start (S := fun w' => Gr wd w') (by kernel_rfl) (by exact Gr.dr Gr.rfl') (fun wz hz0 hHeld => ?_)
          simp only [List.size_toArray, List.length_cons, List.length_nil, Nat.reduceAdd]
          refine wpAnyH_take (i := 0) (oi := ?_) (v := ?_) ?_ (by kernel_rfl) (by kernel_rfl) (by kernel_rfl) ?_ ?_ (by assumption) ?_; rotate_left 2; (focus (simp only [List.getElem?_toArray, List.getElem?_cons_zero]; rfl)); (focus (exact fun _ _ _ h => h)); first | (focus (refine Or.inl ⟨by rfl, ?_⟩; intro w hSw; (try dsimp only at hSw); (try dsimp only [Array.getD]); go_simp; (try with_reducible rfl))) | (focus (refine Or.inr ⟨by rfl, ?_⟩; rfl)) | fail "op 0"
          try simp only [Act.put, List.setIfInBounds_toArray, List.set_cons_zero, List.set_cons_succ]
          refine wpAnyH_take (i := 1) (oi := ?_) (v := ?_) ?_ (by kernel_rfl) (by kernel_rfl) (by kernel_rfl) ?_ ?_ (by assumption) ?_; rotate_left 2; (focus (simp only [List.getElem?_toArray, List.getElem?_cons_succ, List.getElem?_cons_zero]; rfl)); (focus (exact fun _ _ _ h => h)); first | (focus (refine Or.inl ⟨by rfl, ?_⟩; intro w hSw; (try dsimp only at hSw); refine (exec_load_row 31 (.tmp 12) (by rfl) A8 (by rfl) _ (ptC q).toArray (0, 0) _ (hSw.blk B87.out) Try.underlying31 rfl info_pt).trans ?_; with_reducible rfl)) | (focus (refine Or.inr ⟨by rfl, ?_⟩; rfl)) | fail "op 1"
          try simp only [Act.put, List.setIfInBounds_toArray, List.set_cons_zero, List.set_cons_succ]
          refine wpAnyH_take (i := 3) (oi := ?_) (v := ?_) ?_ (by kernel_rfl) (by kernel_rfl) (by kernel_rfl) ?_ ?_ (by assumption) ?_; rotate_left 2; (focus (simp only [List.getElem?_toArray, List.getElem?_cons_succ, List.getElem?_cons_zero]; rfl)); (focus (exact fun _ _ _ h => h)); first | (focus (refine Or.inl ⟨by rfl, ?_⟩; intro w hSw; (try dsimp only at hSw); (try dsimp only [Array.getD]); go_simp; (try with_reducible rfl))) | (focus (refine Or.inr ⟨by rfl, ?_⟩; rfl)) | fail "op 3"
          try simp only [Act.put, List.setIfInBounds_toArray, List.set_cons_zero, List.set_cons_succ]
          refine wpAnyH_take (i := 4) (oi := ?_) (v := ?_) ?_ (by kernel_rfl) (by kernel_rfl) (by kernel_rfl) ?_ ?_ (by assumption) ?_; rotate_left 2; (focus (simp only [List.getElem?_toArray, List.getElem?_cons_succ, List.getElem?_cons_zero]; rfl)); (focus (exact fun _ _ _ h => h)); first | (focus (refine Or.inl ⟨by rfl, ?_⟩; intro w hSw; (try dsimp only at hSw); refine (exec_load_row 31 (.tmp 12) (by rfl) A8 (by rfl) _ (ptC q).toArray (0, 0) _ (hSw.blk B87.out) Try.underlying31 rfl info_pt).trans ?_; with_reducible rfl)) | (focus (refine Or.inr ⟨by rfl, ?_⟩; rfl)) | fail "op 4"
          try simp only [Act.put, List.setIfInBounds_toArray, List.set_cons_zero, List.set_cons_succ]
          refine wpAnyH_ready (rs := [2]) (by kernel_rfl) (by simp) ?_
          refine AllReadyH.cons (o := ?_) ?_ (fun K hK => ?_) AllReadyH.nil; rotate_left; (focus (simp only [List.getElem?_toArray, List.getElem?_cons_succ, List.getElem?_cons_zero]; rfl))
          go_simp
          go_at_call 20
          refine (howed_calls _ p b m L (HR7.out.grow hHeld).one.at_ hL600 q).mono ?_
          rintro e w7 ⟨vm, rfl, hrm, hg7⟩
          rw [HN1.out] at hrm
          refine hK.out _ _ (hHeld.tr hg7) (fun hHeld => ?_)
          clear hK K
          try simp only [Act.put, List.setIfInBounds_toArray, List.set_cons_zero, List.set_cons_succ]
          refine wpAnyH_ready (rs := [5]) (by kernel_rfl) (by simp) ?_
          refine AllReadyH.cons (o := ?_) ?_ (fun K hK => ?_) AllReadyH.nil; rotate_left; (focus (simp only [List.getElem?_toArray, List.getElem?_cons_succ, List.getElem?_cons_zero]; rfl))
          go_simp
          go_at_call 29
          refine (rhnodes_calls _ r N m _ L (HR7.out.grow hHeld).rf (by omega) q false).mono ?_
          rintro e w8 ⟨vn, rfl, hrn, hg8⟩
          refine hK.out _ _ (hHeld.tr hg8) (fun hHeld => ?_)
          clear hK K
          try simp only [Act.put, List.setIfInBounds_toArray, List.set_cons_zero, List.set_cons_succ]
          refine wpAnyH_ready (rs := [6]) (by kernel_rfl) (by simp) ?_
          refine AllReadyH.cons (o := ?_) ?_ (fun K hK => ?_) AllReadyH.nil; rotate_left; (focus (simp only [List.getElem?_toArray, List.getElem?_cons_succ, List.getElem?_cons_zero]; rfl))
          go_simp
          go_at_call 28
          refine (same_calls _ _ _ _ _ (hrm.gr hg8) hrn (by have := nodesOf_len (nodesP L fun x => false || decide (x = q)); omega)).mono ?_
          rintro e w9 ⟨rfl, hg9⟩
          rw [decide_eq_true rfl]
          refine hK.out _ _ (hHeld.tr hg9) (fun hHeld => ?_)
          clear hK K
          try simp only [Act.put, List.setIfInBounds_toArray, List.set_cons_zero, List.set_cons_succ]
          refine wpAnyH_take (i := 7) (oi := ?_) (v := ?_) ?_ (by kernel_rfl) (by kernel_rfl) (by kernel_rfl) ?_ ?_ (by assumption) ?_; rotate_left 2; (focus (simp only [List.getElem?_toArray, List.getElem?_cons_succ, List.getElem?_cons_zero]; rfl)); (focus (exact fun _ _ _ h => h)); first | (focus (refine Or.inl ⟨by rfl, ?_⟩; intro w hSw; (try dsimp only at hSw); (try dsimp only [Array.getD]); go_simp; (try with_reducible rfl))) | (focus (refine Or.inr ⟨by rfl, ?_⟩; rfl)) | fail "op 7"
          try simp only [Act.put, List.setIfInBounds_toArray, List.set_cons_zero, List.set_cons_succ]
          refine wpAnyH_done (by kernel_rfl) ?_ _
          have HR8 := Lib.hid (HR7.out.grow hHeld)
          have B88 := Lib.hid (hHeld.blk B87.out)
          clear hHeld hz0 hrm hrn hg7 hg8 hg9 HR7 B97 B87
          obtain ⟨wb, eb⟩ : ∃ wd, w9 = wd := ⟨_, rfl⟩
          rw [eb] at HR8 B88 ⊢
          clear eb
          go_upto_region 28 with (fail)
          refine region_start (S := fun w' => Gr wb w') (by kernel_rfl) (by exact Gr.dr Gr.rfl') (fun wz hz0 hHeld => ?_)
          simp only [List.size_toArray, List.length_cons, List.length_nil, Nat.reduceAdd]
          refine wpAnyH_take (i := 0) (oi := ?_) (v := ?_) ?_ (by kernel_rfl) (by kernel_rfl) (by kernel_rfl) ?_ ?_ (by assumption) ?_; rotate_left 2; (focus (simp only [List.getElem?_toArray, List.getElem?_cons_zero]; rfl)); (focus (exact fun _ _ _ h => h)); first | (focus (refine Or.inl ⟨by rfl, ?_⟩; intro w hSw; (try dsimp only at hSw); (try dsimp only [Array.getD]); go_simp; (try with_reducible rfl))) | (focus (refine Or.inr ⟨by rfl, ?_⟩; rfl)) | fail "op 0"
          try simp only [Act.put, List.setIfInBounds_toArray, List.set_cons_zero, List.set_cons_succ]
          refine wpAnyH_take (i := 2) (oi := ?_) (v := ?_) ?_ (by kernel_rfl) (by kernel_rfl) (by kernel_rfl) ?_ ?_ (by assumption) ?_; rotate_left 2; (focus (simp only [List.getElem?_toArray, List.getElem?_cons_succ, List.getElem?_cons_zero]; rfl)); (focus (exact fun _ _ _ h => h)); first | (focus (refine Or.inl ⟨by rfl, ?_⟩; intro w hSw; (try dsimp only at hSw); (try dsimp only [Array.getD]); go_simp; (try with_reducible rfl))) | (focus (refine Or.inr ⟨by rfl, ?_⟩; rfl)) | fail "op 2"
          try simp only [Act.put, List.setIfInBounds_toArray, List.set_cons_zero, List.set_cons_succ]
          refine wpAnyH_take (i := 3) (oi := ?_) (v := ?_) ?_ (by kernel_rfl) (by kernel_rfl) (by kernel_rfl) ?_ ?_ (by assumption) ?_; rotate_left 2; (focus (simp only [List.getElem?_toArray, List.getElem?_cons_succ, List.getElem?_cons_zero]; rfl)); (focus (exact fun _ _ _ h => h)); first | (focus (refine Or.inl ⟨by rfl, ?_⟩; intro w hSw; (try dsimp only at hSw); refine (exec_load_row 31 (.tmp 12) (by rfl) A8 (by rfl) _ (ptC q).toArray (0, 0) _ (hSw.blk B88.out) Try.underlying31 rfl info_pt).trans ?_; with_reducible rfl)) | (focus (refine Or.inr ⟨by rfl, ?_⟩; rfl)) | fail "op 3"
          try simp only [Act.put, List.setIfInBounds_toArray, List.set_cons_zero, List.set_cons_succ]
          refine wpAnyH_ready (rs := [1]) (by kernel_rfl) (by simp) ?_
          refine AllReadyH.cons (o := ?_) ?_ (fun K hK => ?_) AllReadyH.nil; rotate_left; (focus (simp only [List.getElem?_toArray, List.getElem?_cons_succ, List.getElem?_cons_zero]; rfl))
          go_simp
          go_at_call 17
          refine (hnodes_calls _ p b m L (HR8.out.grow hHeld).one.at_ hL600).mono ?_
          rintro e w7 ⟨vm, rfl, hrm, hg7⟩
          rw [HN2.out] at hrm
          refine hK.out _ _ (hHeld.tr hg7) (fun hHeld => ?_)
          clear hK K
          try simp only [Act.put, List.setIfInBounds_toArray, List.set_cons_zero, List.set_cons_succ]
          refine wpAnyH_ready (rs := [4]) (by kernel_rfl) (by simp) ?_
          refine AllReadyH.cons (o := ?_) ?_ (fun K hK => ?_) AllReadyH.nil; rotate_left; (focus (simp only [List.getElem?_toArray, List.getElem?_cons_succ, List.getElem?_cons_zero]; rfl))
          go_simp
          go_at_call 29
          refine (rhnodes_calls _ r N m _ L (HR8.out.grow hHeld).rf (by omega) q true).mono ?_
          rintro e w8 ⟨vn, rfl, hrn, hg8⟩
          refine hK.out _ _ (hHeld.tr hg8) (fun hHeld => ?_)
          clear hK K
          try simp only [Act.put, List.setIfInBounds_toArray, List.set_cons_zero, List.set_cons_succ]
          refine wpAnyH_ready (rs := [5]) (by kernel_rfl) (by simp) ?_
          refine AllReadyH.cons (o := ?_) ?_ (fun K hK => ?_) AllReadyH.nil; rotate_left; (focus (simp only [List.getElem?_toArray, List.getElem?_cons_succ, List.getElem?_cons_zero]; rfl))
          go_simp
          go_at_call 28
          refine (same_calls _ _ _ _ _ (hrm.gr hg8) hrn (by have := nodesOf_len (nodesP L fun x => true || decide (x = q)); omega)).mono ?_
          rintro e w9 ⟨rfl, hg9⟩
          rw [decide_eq_true rfl]
          refine hK.out _ _ (hHeld.tr hg9) (fun hHeld => ?_)
          clear hK K
          try simp only [Act.put, List.setIfInBounds_toArray, List.set_cons_zero, List.set_cons_succ]
          refine wpAnyH_take (i := 6) (oi := ?_) (v := ?_) ?_ (by kernel_rfl) (by kernel_rfl) (by kernel_rfl) ?_ ?_ (by assumption) ?_; rotate_left 2; (focus (simp only [List.getElem?_toArray, List.getElem?_cons_succ, List.getElem?_cons_zero]; rfl)); (focus (exact fun _ _ _ h => h)); first | (focus (refine Or.inl ⟨by rfl, ?_⟩; intro w hSw; (try dsimp only at hSw); (try dsimp only [Array.getD]); go_simp; (try with_reducible rfl))) | (focus (refine Or.inr ⟨by rfl, ?_⟩; rfl)) | fail "op 6"
          try simp only [Act.put, List.setIfInBounds_toArray, List.set_cons_zero, List.set_cons_succ]
          refine wpAnyH_done (by kernel_rfl) ?_ _
          have HR9 := Lib.hid (HR8.out.grow hHeld)
          clear hHeld hz0 hrm hrn hg7 hg8 hg9 HR8 B88
          obtain ⟨wa, ea⟩ : ∃ wd, w9 = wd := ⟨_, rfl⟩
          rw [ea] at HR9 ⊢
          clear ea
          have hws : IntKind.i64.wrap (m - (L.length : Int)) = m - (L.length : Int) := wrap_id (by have := Hm.out; unfold I64; omega)
          go_upto_region 29 with (fail)
          refine region_start (S := fun w' => Gr wa w') (by kernel_rfl) (by exact Gr.dr Gr.rfl') (fun wz hz0 hHeld => ?_)
          simp only [List.size_toArray, List.length_cons, List.length_nil, Nat.reduceAdd]
          refine wpAnyH_take (i := 0) (oi := ?_) (v := ?_) ?_ (by kernel_rfl) (by kernel_rfl) (by kernel_rfl) ?_ ?_ (by assumption) ?_; rotate_left 2; (focus (simp only [List.getElem?_toArray, List.getElem?_cons_zero]; rfl)); (focus (exact fun _ _ _ h => h)); first | (focus (refine Or.inl ⟨by rfl, ?_⟩; intro w hSw; (try dsimp only at hSw); (try dsimp only [Array.getD]); go_simp; (try with_reducible rfl))) | (focus (refine Or.inr ⟨by rfl, ?_⟩; rfl)) | fail "op 0"
          try simp only [Act.put, List.setIfInBounds_toArray, List.set_cons_zero, List.set_cons_succ]
          refine wpAnyH_take (i := 1) (oi := ?_) (v := ?_) ?_ (by kernel_rfl) (by kernel_rfl) (by kernel_rfl) ?_ ?_ (by assumption) ?_; rotate_left 2; (focus (simp only [List.getElem?_toArray, List.getElem?_cons_succ, List.getElem?_cons_zero]; rfl)); (focus (exact fun _ _ _ h => h)); first | (focus (refine Or.inl ⟨by rfl, ?_⟩; intro w hSw; (try dsimp only at hSw); (try dsimp only [Array.getD]); go_simp; (try with_reducible rfl))) | (focus (refine Or.inr ⟨by rfl, ?_⟩; rfl)) | fail "op 1"
          try simp only [Act.put, List.setIfInBounds_toArray, List.set_cons_zero, List.set_cons_succ]
          refine wpAnyH_take (i := 2) (oi := ?_) (v := ?_) ?_ (by kernel_rfl) (by kernel_rfl) (by kernel_rfl) ?_ ?_ (by assumption) ?_; rotate_left 2; (focus (simp only [List.getElem?_toArray, List.getElem?_cons_succ, List.getElem?_cons_zero]; rfl)); (focus (exact fun _ _ _ h => h)); first | (focus (refine Or.inl ⟨by rfl, ?_⟩; intro w hSw; (try dsimp only at hSw); (try dsimp only [Array.getD]); go_simp; (try with_reducible rfl))) | (focus (refine Or.inr ⟨by rfl, ?_⟩; rfl)) | fail "op 2"
          try simp only [Act.put, List.setIfInBounds_toArray, List.set_cons_zero, List.set_cons_succ]
          refine wpAnyH_take (i := 3) (oi := ?_) (v := ?_) ?_ (by kernel_rfl) (by kernel_rfl) (by kernel_rfl) ?_ ?_ (by assumption) ?_; rotate_left 2; (focus (simp only [List.getElem?_toArray, List.getElem?_cons_succ, List.getElem?_cons_zero]; rfl)); (focus (exact fun _ _ _ h => h)); first | (focus (refine Or.inl ⟨by rfl, ?_⟩; intro w hSw; (try dsimp only at hSw); (try dsimp only [Array.getD]); go_simp; (try with_reducible rfl))) | (focus (refine Or.inr ⟨by rfl, ?_⟩; rfl)) | fail "op 3"
          try simp only [Act.put, List.setIfInBounds_toArray, List.set_cons_zero, List.set_cons_succ]
          refine wpAnyH_take (i := 4) (oi := ?_) (v := ?_) ?_ (by kernel_rfl) (by kernel_rfl) (by kernel_rfl) ?_ ?_ (by assumption) ?_; rotate_left 2; (focus (simp only [List.getElem?_toArray, List.getElem?_cons_succ, List.getElem?_cons_zero]; rfl)); (focus (exact fun _ _ _ h => h)); first | (focus (refine Or.inl ⟨by rfl, ?_⟩; intro w hSw; (try dsimp only at hSw); (try dsimp only [Array.getD]); go_simp; (try with_reducible rfl))) | (focus (refine Or.inr ⟨by rfl, ?_⟩; rfl)) | fail "op 4"
          try simp only [Act.put, List.setIfInBounds_toArray, List.set_cons_zero, List.set_cons_succ]
          refine wpAnyH_take (i := 5) (oi := ?_) (v := ?_) ?_ (by kernel_rfl) (by kernel_rfl) (by kernel_rfl) ?_ ?_ (by assumption) ?_; rotate_left 2; (focus (simp only [List.getElem?_toArray, List.getElem?_cons_succ, List.getElem?_cons_zero]; rfl)); (focus (exact fun _ _ _ h => h)); first | (focus (refine Or.inl ⟨by rfl, ?_⟩; intro w hSw; (try dsimp only at hSw); (try dsimp only [Array.getD]); go_simp; (try with_reducible rfl))) | (focus (refine Or.inr ⟨by rfl, ?_⟩; rfl)) | fail "op 5"
          try simp only [Act.put, List.setIfInBounds_toArray, List.set_cons_zero, List.set_cons_succ]
          refine wpAnyH_take (i := 6) (oi := ?_) (v := ?_) ?_ (by kernel_rfl) (by kernel_rfl) (by kernel_rfl) ?_ ?_ (by assumption) ?_; rotate_left 2; (focus (simp only [List.getElem?_toArray, List.getElem?_cons_succ, List.getElem?_cons_zero]; rfl)); (focus (exact fun _ _ _ h => h)); first | (focus (refine Or.inl ⟨by rfl, ?_⟩; intro w hSw; (try dsimp only at hSw); (try dsimp only [Array.getD]); go_simp; (try with_reducible rfl))) | (focus (refine Or.inr ⟨by rfl, ?_⟩; rfl)) | fail "op 6"
          try simp only [Act.put, List.setIfInBounds_toArray, List.set_cons_zero, List.set_cons_succ]
          refine wpAnyH_take (i := 7) (oi := ?_) (v := ?_) ?_ (by kernel_rfl) (by kernel_rfl) (by kernel_rfl) ?_ ?_ (by assumption) ?_; rotate_left 2; (focus (simp only [List.getElem?_toArray, List.getElem?_cons_succ, List.getElem?_cons_zero]; rfl)); (focus (exact fun _ _ _ h => h)); first | (focus (refine Or.inl ⟨by rfl, ?_⟩; intro w hSw; (try dsimp only at hSw); (try dsimp only [Array.getD]); go_simp; (try with_reducible rfl))) | (focus (refine Or.inr ⟨by rfl, ?_⟩; rfl)) | fail "op 7"
          try simp only [Act.put, List.setIfInBounds_toArray, List.set_cons_zero, List.set_cons_succ]
          refine wpAnyH_take (i := 8) (oi := ?_) (v := ?_) ?_ (by kernel_rfl) (by kernel_rfl) (by kernel_rfl) ?_ ?_ (by assumption) ?_; rotate_left 2; (focus (simp only [List.getElem?_toArray, List.getElem?_cons_succ, List.getElem?_cons_zero]; rfl)); (focus (exact fun _ _ _ h => h)); first | (focus (refine Or.inl ⟨by rfl, ?_⟩; intro w hSw; (try dsimp only at hSw); (try dsimp only [Array.getD]); go_simp; (try with_reducible rfl))) | (focus (refine Or.inr ⟨by rfl, ?_⟩; rfl)) | fail "op 8"
          try simp only [Act.put, List.setIfInBounds_toArray, List.set_cons_zero, List.set_cons_succ]
          refine wpAnyH_take (i := 9) (oi := ?_) (v := ?_) ?_ (by kernel_rfl) (by kernel_rfl) (by kernel_rfl) ?_ ?_ (by assumption) ?_; rotate_left 2; (focus (simp only [List.getElem?_toArray, List.getElem?_cons_succ, List.getElem?_cons_zero]; rfl)); (focus (exact fun _ _ _ h => h)); first | (focus (refine Or.inl ⟨by rfl, ?_⟩; intro w hSw; (try dsimp only at hSw); (try dsimp only [Array.getD]); go_simp; (try with_reducible rfl))) | (focus (refine Or.inr ⟨by rfl, ?_⟩; rfl)) | fail "op 9"
          try simp only [Act.put, List.setIfInBounds_toArray, List.set_cons_zero, List.set_cons_succ]
          refine wpAnyH_take (i := 10) (oi := ?_) (v := ?_) ?_ (by kernel_rfl) (by kernel_rfl) (by kernel_rfl) ?_ ?_ (by assumption) ?_; rotate_left 2; (focus (simp only [List.getElem?_toArray, List.getElem?_cons_succ, List.getElem?_cons_zero]; rfl)); (focus (exact fun _ _ _ h => h)); first | (focus (refine Or.inl ⟨by rfl, ?_⟩; intro w hSw; (try dsimp only at hSw); (try dsimp only [Array.getD]); go_simp; (try with_reducible rfl))) | (focus (refine Or.inr ⟨by rfl, ?_⟩; rfl)) | fail "op 10"
          try simp only [Act.put, List.setIfInBounds_toArray, List.set_cons_zero, List.set_cons_succ]
          refine wpAnyH_take (i := 11) (oi := ?_) (v := ?_) ?_ (by kernel_rfl) (by kernel_rfl) (by kernel_rfl) ?_ ?_ (by assumption) ?_; rotate_left 2; (focus (simp only [List.getElem?_toArray, List.getElem?_cons_succ, List.getElem?_cons_zero]; rfl)); (focus (exact fun _ _ _ h => h)); first | (focus (refine Or.inl ⟨by rfl, ?_⟩; intro w hSw; (try dsimp only at hSw); (try dsimp only [Array.getD]); go_simp; (try with_reducible rfl))) | (focus (refine Or.inr ⟨by rfl, ?_⟩; rfl)) | fail "op 11"
          try simp only [Act.put, List.setIfInBounds_toArray, List.set_cons_zero, List.set_cons_succ]
          refine wpAnyH_take (i := 12) (oi := ?_) (v := ?_) ?_ (by kernel_rfl) (by kernel_rfl) (by kernel_rfl) ?_ ?_ (by assumption) ?_; rotate_left 2; (focus (simp only [List.getElem?_toArray, List.getElem?_cons_succ, List.getElem?_cons_zero]; rfl)); (focus (exact fun _ _ _ h => h)); first | (focus (refine Or.inl ⟨by rfl, ?_⟩; intro w hSw; (try dsimp only at hSw); (try dsimp only [Array.getD]); go_simp; (try with_reducible rfl))) | (focus (refine Or.inr ⟨by rfl, ?_⟩; rfl)) | fail "op 12"
          try simp only [Act.put, List.setIfInBounds_toArray, List.set_cons_zero, List.set_cons_succ]
          refine wpAnyH_take (i := 13) (oi := ?_) (v := ?_) ?_ (by kernel_rfl) (by kernel_rfl) (by kernel_rfl) ?_ ?_ (by assumption) ?_; rotate_left 2; (focus (simp only [List.getElem?_toArray, List.getElem?_cons_succ, List.getElem?_cons_zero]; rfl)); (focus (exact fun _ _ _ h => h)); first | (focus (refine Or.inl ⟨by rfl, ?_⟩; intro w hSw; (try dsimp only at hSw); (try dsimp only [Array.getD]); go_simp; (try with_reducible rfl))) | (focus (refine Or.inr ⟨by rfl, ?_⟩; rfl)) | fail "op 13"
          try simp only [Act.put, List.setIfInBounds_toArray, List.set_cons_zero, List.set_cons_succ]
          refine wpAnyH_take (i := 14) (oi := ?_) (v := ?_) ?_ (by kernel_rfl) (by kernel_rfl) (by kernel_rfl) ?_ ?_ (by assumption) ?_; rotate_left 2; (focus (simp only [List.getElem?_toArray, List.getElem?_cons_succ, List.getElem?_cons_zero]; rfl)); (focus (exact fun _ _ _ h => h)); first | (focus (refine Or.inl ⟨by rfl, ?_⟩; intro w hSw; (try dsimp only at hSw); (try dsimp only [Array.getD]); go_simp; (try with_reducible rfl))) | (focus (refine Or.inr ⟨by rfl, ?_⟩; rfl)) | fail "op 14"
          try simp only [Act.put, List.setIfInBounds_toArray, List.set_cons_zero, List.set_cons_succ]
          refine wpAnyH_take (i := 15) (oi := ?_) (v := ?_) ?_ (by kernel_rfl) (by kernel_rfl) (by kernel_rfl) ?_ ?_ (by assumption) ?_; rotate_left 2; (focus (simp only [List.getElem?_toArray, List.getElem?_cons_succ, List.getElem?_cons_zero]; rfl)); (focus (exact fun _ _ _ h => h)); first | (focus (refine Or.inl ⟨by rfl, ?_⟩; intro w hSw; (try dsimp only at hSw); (try dsimp only [Array.getD]); go_simp; (try with_reducible rfl))) | (focus (refine Or.inr ⟨by rfl, ?_⟩; rfl)) | fail "op 15"
          try simp only [Act.put, List.setIfInBounds_toArray, List.set_cons_zero, List.set_cons_succ]
          refine wpAnyH_take (i := 17) (oi := ?_) (v := ?_) ?_ (by kernel_rfl) (by kernel_rfl) (by kernel_rfl) ?_ ?_ (by assumption) ?_; rotate_left 2; (focus (simp only [List.getElem?_toArray, List.getElem?_cons_succ, List.getElem?_cons_zero]; rfl)); (focus (exact fun _ _ _ h => h)); first | (focus (refine Or.inl ⟨by rfl, ?_⟩; intro w hSw; (try dsimp only at hSw); (try dsimp only [Array.getD]); go_simp; (try with_reducible rfl))) | (focus (refine Or.inr ⟨by rfl, ?_⟩; rfl)) | fail "op 17"
          try simp only [Act.put, List.setIfInBounds_toArray, List.set_cons_zero, List.set_cons_succ]
          refine wpAnyH_take (i := 18) (oi := ?_) (v := ?_) ?_ (by kernel_rfl) (by kernel_rfl) (by kernel_rfl) ?_ ?_ (by assumption) ?_; rotate_left 2; (focus (simp only [List.getElem?_toArray, List.getElem?_cons_succ, List.getElem?_cons_zero]; rfl)); (focus (exact fun _ _ _ h => h)); first | (focus (refine Or.inl ⟨by rfl, ?_⟩; intro w hSw; (try dsimp only at hSw); (try dsimp only [Array.getD]); go_simp; (try with_reducible rfl))) | (focus (refine Or.inr ⟨by rfl, ?_⟩; rfl)) | fail "op 18"
          try simp only [Act.put, List.setIfInBounds_toArray, List.set_cons_zero, List.set_cons_succ]
          refine wpAnyH_take (i := 19) (oi := ?_) (v := ?_) ?_ (by kernel_rfl) (by kernel_rfl) (by kernel_rfl) ?_ ?_ (by assumption) ?_; rotate_left 2; (focus (simp only [List.getElem?_toArray, List.getElem?_cons_succ, List.getElem?_cons_zero]; rfl)); (focus (exact fun _ _ _ h => h)); first | (focus (refine Or.inl ⟨by rfl, ?_⟩; intro w hSw; (try dsimp only at hSw); (try dsimp only [Array.getD]); go_simp; (try with_reducible rfl))) | (focus (refine Or.inr ⟨by rfl, ?_⟩; rfl)) | fail "op 19"
          try simp only [Act.put, List.setIfInBounds_toArray, List.set_cons_zero, List.set_cons_succ]
          refine wpAnyH_take (i := 20) (oi := ?_) (v := ?_) ?_ (by kernel_rfl) (by kernel_rfl) (by kernel_rfl) ?_ ?_ (by assumption) ?_; rotate_left 2; (focus (simp only [List.getElem?_toArray, List.getElem?_cons_succ, List.getElem?_cons_zero]; rfl)); (focus (exact fun _ _ _ h => h)); first | (focus (refine Or.inl ⟨by rfl, ?_⟩; intro w hSw; (try dsimp only at hSw); have c1 := (HR9.out.grow hSw).rf.c1; (try dsimp only [Array.getD]); go_simp; (try with_reducible rfl))) | (focus (refine Or.inr ⟨by rfl, ?_⟩; rfl)) | fail "op 20"
          try simp only [Act.put, List.setIfInBounds_toArray, List.set_cons_zero, List.set_cons_succ]
          refine wpAnyH_take (i := 21) (oi := ?_) (v := ?_) ?_ (by kernel_rfl) (by kernel_rfl) (by kernel_rfl) ?_ ?_ (by assumption) ?_; rotate_left 2; (focus (simp only [List.getElem?_toArray, List.getElem?_cons_succ, List.getElem?_cons_zero]; rfl)); (focus (exact fun _ _ _ h => h)); first | (focus (refine Or.inl ⟨by rfl, ?_⟩; intro w hSw; (try dsimp only at hSw); skip; (try dsimp only [Array.getD]); go_simp; (try with_reducible rfl))) | (focus (refine Or.inr ⟨by rfl, ?_⟩; rfl)) | fail "op 21"
          try simp only [Act.put, List.setIfInBounds_toArray, List.set_cons_zero, List.set_cons_succ]
          refine wpAnyH_ready (rs := [16]) (by kernel_rfl) (by simp) ?_
          refine AllReadyH.cons (o := ?_) ?_ (fun K hK => ?_) AllReadyH.nil; rotate_left; (focus (simp only [List.getElem?_toArray, List.getElem?_cons_succ, List.getElem?_cons_zero]; rfl))
          go_simp
          go_at_call 14
          refine (hlen_calls _ p (some b) m L (HR9.out.grow hHeld).one.at_).mono ?_
          rintro e w7 ⟨rfl, hg7⟩
          refine hK.out _ _ (hHeld.tr hg7) (fun hHeld => ?_)
          clear hK K
          try simp only [Act.put, List.setIfInBounds_toArray, List.set_cons_zero, List.set_cons_succ]
          refine wpAnyH_take (i := 22) (oi := ?_) (v := ?_) ?_ (by kernel_rfl) (by kernel_rfl) (by kernel_rfl) ?_ ?_ (by assumption) ?_; rotate_left 2; (focus (simp only [List.getElem?_toArray, List.getElem?_cons_succ, List.getElem?_cons_zero]; rfl)); (focus (exact fun _ _ _ h => h)); first | (focus (refine Or.inl ⟨by rfl, ?_⟩; intro w hSw; (try dsimp only at hSw); (try dsimp only [Array.getD]); go_simp; (try with_reducible rfl))) | (focus (refine Or.inr ⟨by rfl, ?_⟩; rfl)) | fail "op 22"
          try simp only [Act.put, List.setIfInBounds_toArray, List.set_cons_zero, List.set_cons_succ]
          refine wpAnyH_take (i := 23) (oi := ?_) (v := ?_) ?_ (by kernel_rfl) (by kernel_rfl) (by kernel_rfl) ?_ ?_ (by assumption) ?_; rotate_left 2; (focus (simp only [List.getElem?_toArray, List.getElem?_cons_succ, List.getElem?_cons_zero]; rfl)); (focus (exact fun _ _ _ h => h)); first | (focus (refine Or.inl ⟨by rfl, ?_⟩; intro w hSw; (try dsimp only at hSw); (try dsimp only [Array.getD]); go_simp; (try with_reducible rfl))) | (focus (refine Or.inr ⟨by rfl, ?_⟩; rfl)) | fail "op 23"
          try simp only [Act.put, List.setIfInBounds_toArray, List.set_cons_zero, List.set_cons_succ]
          refine wpAnyH_take (i := 24) (oi := ?_) (v := ?_) ?_ (by kernel_rfl) (by kernel_rfl) (by kernel_rfl) ?_ ?_ (by assumption) ?_; rotate_left 2; (focus (simp only [List.getElem?_toArray, List.getElem?_cons_succ, List.getElem?_cons_zero]; rfl)); (focus (exact fun _ _ _ h => h)); first | (focus (refine Or.inl ⟨by rfl, ?_⟩; intro w hSw; (try dsimp only at hSw); (try dsimp only [Array.getD]); go_simp; (try with_reducible rfl))) | (focus (refine Or.inr ⟨by rfl, ?_⟩; rfl)) | fail "op 24"
          try simp only [Act.put, List.setIfInBounds_toArray, List.set_cons_zero, List.set_cons_succ]
          refine wpAnyH_take (i := 25) (oi := ?_) (v := ?_) ?_ (by kernel_rfl) (by kernel_rfl) (by kernel_rfl) ?_ ?_ (by assumption) ?_; rotate_left 2; (focus (simp only [List.getElem?_toArray, List.getElem?_cons_succ, List.getElem?_cons_zero]; rfl)); (focus (exact fun _ _ _ h => h)); first | (focus (refine Or.inl ⟨by rfl, ?_⟩; intro w hSw; (try dsimp only at hSw); (try dsimp only [Array.getD]); go_simp; (try with_reducible rfl))) | (focus (refine Or.inr ⟨by rfl, ?_⟩; rfl)) | fail "op 25"
          try simp only [Act.put, List.setIfInBounds_toArray, List.set_cons_zero, List.set_cons_succ]
          refine wpAnyH_take (i := 27) (oi := ?_) (v := ?_) ?_ (by kernel_rfl) (by kernel_rfl) (by kernel_rfl) ?_ ?_ (by assumption) ?_; rotate_left 2; (focus (simp only [List.getElem?_toArray, List.getElem?_cons_succ, List.getElem?_cons_zero]; rfl)); (focus (exact fun _ _ _ h => h)); first | (focus (refine Or.inl ⟨by rfl, ?_⟩; intro w hSw; (try dsimp only at hSw); (try dsimp only [Array.getD]); go_simp; (try with_reducible rfl))) | (focus (refine Or.inr ⟨by rfl, ?_⟩; rfl)) | fail "op 27"
          try simp only [Act.put, List.setIfInBounds_toArray, List.set_cons_zero, List.set_cons_succ]
          refine wpAnyH_take (i := 28) (oi := ?_) (v := ?_) ?_ (by kernel_rfl) (by kernel_rfl) (by kernel_rfl) ?_ ?_ (by assumption) ?_; rotate_left 2; (focus (simp only [List.getElem?_toArray, List.getElem?_cons_succ, List.getElem?_cons_zero]; rfl)); (focus (exact fun _ _ _ h => h)); first | (focus (refine Or.inl ⟨by rfl, ?_⟩; intro w hSw; (try dsimp only at hSw); (try dsimp only [Array.getD]); go_simp; (try with_reducible rfl))) | (focus (refine Or.inr ⟨by rfl, ?_⟩; rfl)) | fail "op 28"
          try simp only [Act.put, List.setIfInBounds_toArray, List.set_cons_zero, List.set_cons_succ]
          refine wpAnyH_take (i := 29) (oi := ?_) (v := ?_) ?_ (by kernel_rfl) (by kernel_rfl) (by kernel_rfl) ?_ ?_ (by assumption) ?_; rotate_left 2; (focus (simp only [List.getElem?_toArray, List.getElem?_cons_succ, List.getElem?_cons_zero]; rfl)); (focus (exact fun _ _ _ h => h)); first | (focus (refine Or.inl ⟨by rfl, ?_⟩; intro w hSw; (try dsimp only at hSw); (try dsimp only [Array.getD]); go_simp; (try with_reducible rfl))) | (focus (refine Or.inr ⟨by rfl, ?_⟩; rfl)) | fail "op 29"
          try simp only [Act.put, List.setIfInBounds_toArray, List.set_cons_zero, List.set_cons_succ]
          refine wpAnyH_take (i := 30) (oi := ?_) (v := ?_) ?_ (by kernel_rfl) (by kernel_rfl) (by kernel_rfl) ?_ ?_ (by assumption) ?_; rotate_left 2; (focus (simp only [List.getElem?_toArray, List.getElem?_cons_succ, List.getElem?_cons_zero]; rfl)); (focus (exact fun _ _ _ h => h)); first | (focus (refine Or.inl ⟨by rfl, ?_⟩; intro w hSw; (try dsimp only at hSw); have c0 := (HR9.out.grow hSw).rf.c0; (try dsimp only [Array.getD]); go_simp; (try with_reducible rfl))) | (focus (refine Or.inr ⟨by rfl, ?_⟩; rfl)) | fail "op 30"
          try simp only [Act.put, List.setIfInBounds_toArray, List.set_cons_zero, List.set_cons_succ]
          refine wpAnyH_take (i := 31) (oi := ?_) (v := ?_) ?_ (by kernel_rfl) (by kernel_rfl) (by kernel_rfl) ?_ ?_ (by assumption) ?_; rotate_left 2; (focus (simp only [List.getElem?_toArray, List.getElem?_cons_succ, List.getElem?_cons_zero]; rfl)); (focus (exact fun _ _ _ h => h)); first | (focus (refine Or.inl ⟨by rfl, ?_⟩; intro w hSw; (try dsimp only at hSw); (try dsimp only [Array.getD]); go_simp; (try with_reducible rfl))) | (focus (refine Or.inr ⟨by rfl, ?_⟩; rfl)) | fail "op 31"
          try simp only [Act.put, List.setIfInBounds_toArray, List.set_cons_zero, List.set_cons_succ]
          refine wpAnyH_take (i := 32) (oi := ?_) (v := ?_) ?_ (by kernel_rfl) (by kernel_rfl) (by kernel_rfl) ?_ ?_ (by assumption) ?_; rotate_left 2; (focus (simp only [List.getElem?_toArray, List.getElem?_cons_succ, List.getElem?_cons_zero]; rfl)); (focus (exact fun _ _ _ h => h)); first | (focus (refine Or.inl ⟨by rfl, ?_⟩; intro w hSw; (try dsimp only at hSw); (try dsimp only [Array.getD]); go_simp; (try with_reducible rfl))) | (focus (refine Or.inr ⟨by rfl, ?_⟩; rfl)) | fail "op 32"
          try simp only [Act.put, List.setIfInBounds_toArray, List.set_cons_zero, List.set_cons_succ]
          refine wpAnyH_take (i := 33) (oi := ?_) (v := ?_) ?_ (by kernel_rfl) (by kernel_rfl) (by kernel_rfl) ?_ ?_ (by assumption) ?_; rotate_left 2; (focus (simp only [List.getElem?_toArray, List.getElem?_cons_succ, List.getElem?_cons_zero]; rfl)); (focus (exact fun _ _ _ h => h)); first | (focus (refine Or.inl ⟨by rfl, ?_⟩; intro w hSw; (try dsimp only at hSw); (try dsimp only [Array.getD]); go_simp; (try with_reducible rfl))) | (focus (refine Or.inr ⟨by rfl, ?_⟩; rfl)) | fail "op 33"
          try simp only [Act.put, List.setIfInBounds_toArray, List.set_cons_zero, List.set_cons_succ]
          refine wpAnyH_take (i := 34) (oi := ?_) (v := ?_) ?_ (by kernel_rfl) (by kernel_rfl) (by kernel_rfl) ?_ ?_ (by assumption) ?_; rotate_left 2; (focus (simp only [List.getElem?_toArray, List.getElem?_cons_succ, List.getElem?_cons_zero]; rfl)); (focus (exact fun _ _ _ h => h)); first | (focus (refine Or.inl ⟨by rfl, ?_⟩; intro w hSw; (try dsimp only at hSw); have c1 := (HR9.out.grow hSw).rf.c1; (try dsimp only [Array.getD]); go_simp; (try with_reducible rfl))) | (focus (refine Or.inr ⟨by rfl, ?_⟩; rfl)) | fail "op 34"
          try simp only [Act.put, List.setIfInBounds_toArray, List.set_cons_zero, List.set_cons_succ]
          refine wpAnyH_take (i := 35) (oi := ?_) (v := ?_) ?_ (by kernel_rfl) (by kernel_rfl) (by kernel_rfl) ?_ ?_ (by assumption) ?_; rotate_left 2; (focus (simp only [List.getElem?_toArray, List.getElem?_cons_succ, List.getElem?_cons_zero]; rfl)); (focus (exact fun _ _ _ h => h)); first | (focus (refine Or.inl ⟨by rfl, ?_⟩; intro w hSw; (try dsimp only at hSw); skip; (try dsimp only [Array.getD]); go_simp; (try with_reducible rfl))) | (focus (refine Or.inr ⟨by rfl, ?_⟩; rfl)) | fail "op 35"
          try simp only [Act.put, List.setIfInBounds_toArray, List.set_cons_zero, List.set_cons_succ]
          refine wpAnyH_take (i := 36) (oi := ?_) (v := ?_) ?_ (by kernel_rfl) (by kernel_rfl) (by kernel_rfl) ?_ ?_ (by assumption) ?_; rotate_left 2; (focus (simp only [List.getElem?_toArray, List.getElem?_cons_succ, List.getElem?_cons_zero]; rfl)); (focus (exact fun _ _ _ h => h)); first | (focus (refine Or.inl ⟨by rfl, ?_⟩; intro w hSw; (try dsimp only at hSw); (try dsimp only [Array.getD]); go_simp; (try with_reducible rfl))) | (focus (refine Or.inr ⟨by rfl, ?_⟩; rfl)) | fail "op 36"
          try simp only [Act.put, List.setIfInBounds_toArray, List.set_cons_zero, List.set_cons_succ]
          refine wpAnyH_ready (rs := [26]) (by kernel_rfl) (by simp) ?_
          refine AllReadyH.cons (o := ?_) ?_ (fun K hK => ?_) AllReadyH.nil; rotate_left; (focus (simp only [List.getElem?_toArray, List.getElem?_cons_succ, List.getElem?_cons_zero]; rfl))
          go_simp
          go_at_call 19
          refine (hroom_calls _ p (some b) m L (HR9.out.grow hHeld).one.at_ Hm.out hLm).mono ?_
          rintro e w8 ⟨rfl, hg8⟩
          refine hK.out _ _ (hHeld.tr hg8) (fun hHeld => ?_)
          clear hK K
          try simp only [Act.put, List.setIfInBounds_toArray, List.set_cons_zero, List.set_cons_succ]
          refine wpAnyH_take (i := 37) (oi := ?_) (v := ?_) ?_ (by kernel_rfl) (by kernel_rfl) (by kernel_rfl) ?_ ?_ (by assumption) ?_; rotate_left 2; (focus (simp only [List.getElem?_toArray, List.getElem?_cons_succ, List.getElem?_cons_zero]; rfl)); (focus (exact fun _ _ _ h => h)); first | (focus (refine Or.inl ⟨by rfl, ?_⟩; intro w hSw; (try dsimp only at hSw); (try dsimp only [Array.getD]); go_simp; (try with_reducible rfl))) | (focus (refine Or.inr ⟨by rfl, ?_⟩; rfl)) | fail "op 37"
          try simp only [Act.put, List.setIfInBounds_toArray, List.set_cons_zero, List.set_cons_succ]
          refine wpAnyH_take (i := 38) (oi := ?_) (v := ?_) ?_ (by kernel_rfl) (by kernel_rfl) (by kernel_rfl) ?_ ?_ (by assumption) ?_; rotate_left 2; (focus (simp only [List.getElem?_toArray, List.getElem?_cons_succ, List.getElem?_cons_zero]; rfl)); (focus (exact fun _ _ _ h => h)); first | (focus (refine Or.inl ⟨by rfl, ?_⟩; intro w hSw; (try dsimp only at hSw); (try dsimp only [Array.getD]); go_simp; (try with_reducible rfl))) | (focus (refine Or.inr ⟨by rfl, ?_⟩; rfl)) | fail "op 38"
          try simp only [Act.put, List.setIfInBounds_toArray, List.set_cons_zero, List.set_cons_succ]
          refine wpAnyH_done (by kernel_rfl) ?_ _
          have HI := Lib.hid (show PlI w w8 p b r N m from ⟨_, L, HR9.out.grow hHeld, hLm, HB.out⟩)
          clear hHeld hz0 hg7 hg8 HR9
          go_wp2_with fail
          go_roundw
          case rel => exact ⟨i + 1, by omega, by omega, by go_num, HI⟩
          case measure => simp [intOf]; omega
    · have hex : (¬ (i : Int) < ops.length) ∨ ((i : Int) < ops.length ∧ ¬ (i : Int) < 60) := by omega
      clear hlt
      obtain ⟨v, L, hR, _⟩ := HR.out
      have HG := Lib.hid hR.one.gr
      clear hR HR
      rcases hex with hex | ⟨hex, hex2⟩
      all_goals
        go_wp2_with fail
        go_ret
        exact ⟨rfl, HG.out⟩
end Go.Proofs.Ytijgbfhjimlklaa

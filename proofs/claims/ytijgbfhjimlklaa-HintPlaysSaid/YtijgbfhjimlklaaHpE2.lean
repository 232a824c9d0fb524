/- The reference's hints: Add, walked. -/
import Derived.Test.YtijgbfhjimlklaaHpE
namespace Go.Proofs.Ytijgbfhjimlklaa
open Go.RowKit Go.Maps

set_option maxRecDepth 100000 in
set_option maxHeartbeats 8000000 in
theorem radd_calls (w : World) (r N : Nat) (m : Int) (v : Value) (L : List Hk) (h : RfAt w r N m v L) (hL : L.length ≤ 600) (p : Pt) (nv : Value) (ns : List Int) (hns : rdRow w 1 nv ns.length (encI ns)) (hnl : ns.length ≤ 1000000) :
    Calls Try.prog 26 #[.pointer (some ⟨r, 0, none⟩), ptV p, nv] w (RAddPost w r N m v L p ns) := by
  have Hch := Lib.hid (fun W => rcheckp_calls p W)
  have H := Lib.hid h
  by_cases hok : PtOk p
  rotate_left
  · have hno : ¬ addOk m L p ns := fun z => hok z.1
    rw [decide_eq_false hok] at Hch
    unfold errOf at Hch
    have HNo := Lib.hid hno
    clear hno hok h
    go_enter Try.func26, Try.ntmps26
    go_wp2_with fail
    refine (Hch.out _).mono ?_
    rintro e w1 ⟨rfl, hg⟩
    have hg1 := (Gr.al (Gr.rfl' (w := w)) (.cells (ptC p).toArray 31)).tr hg
    have H1 := Lib.hid (H.out.gr hg1); have G1 := Lib.hid hg1
    clear hg hg1
    go_wp2_with fail
    go_ret
    exact RAddPost.no HNo.out H1.out (.of G1.out)
  · have Hns := Lib.hid hns
    rw [decide_eq_true hok] at Hch
    unfold errOf at Hch
    have Hao := Lib.hid (show addOk m L p ns ↔ (L.length : Int) + (moreH L p ns).length ≤ m from ⟨fun z => z.2, fun z => ⟨hok, z⟩⟩)
    have HK := Lib.hid (moreK_all L p ns)
    have Hkl := Lib.hid (moreK_len L p ns)
    have Htk := Lib.hid (fun i => @moreK_take L p ns i)
    have H0 := Lib.hid (show moreK L p ns 0 = [] by unfold moreK; simp)
    have Hrd := Lib.hid (fun W (hg : Gr w W) => rnodes_calls nv ns W (hns.gr hg) hnl)
    obtain ⟨MH, eMH⟩ : ∃ MH, moreH L p ns = MH := ⟨_, rfl⟩
    rw [eMH] at HK Hao
    have EMH := Lib.hid eMH
    generalize moreK L p ns = mt at *
    have hNl := nodesOf_len ns
    generalize nodesOf ns = NL at *
    clear hok h hns eMH
    go_enter Try.func26, Try.ntmps26
    go_wp2_with fail
    refine (Hch.out _).mono ?_
    rintro e w1 ⟨rfl, hg⟩
    obtain ⟨A4, eA4⟩ : ∃ A, w.heap.size = A := ⟨_, rfl⟩
    have hb4 : w1.heap[A4]? = some (.cells (ptC p).toArray 31 (0, 0)) := by rw [← eA4]; exact hg.blk (heap_alloc_new w _)
    have hg1 := (Gr.al (Gr.rfl' (w := w)) (.cells (ptC p).toArray 31)).tr hg
    have H1 := Lib.hid (H.out.gr hg1)
    have B4 := Lib.hid hb4; have G1 := Lib.hid hg1
    have HA4 := Lib.hid (show ¬ v.ownBlock = some A4 from fun z => by have := (H.out.row.lt _ z).2; omega)
    rw [eA4]
    clear hg hg1 hb4 eA4 Hch H
    have c1 := H1.out.c1
    go_wp2_with fail
    refine (Hrd.out _ G1.out).mono ?_
    rintro e w3 ⟨v9, rfl, ho9, hg3⟩
    obtain ⟨a9, c9, rfl⟩ := own_slice ho9
    have H3 := Lib.hid (H1.out.gr hg3)
    have B43 := Lib.hid (hg3.blk B4.out)
    have G3 := Lib.hid (G1.out.tr hg3)
    have HO9 := Lib.hid ho9
    have H9 := Lib.hid (show ∀ k, (Value.slice a9 NL.length c9).ownBlock = some k → ¬ v.ownBlock = some k from fun k hk z => by have := (ho9.lt _ hk).1; have := (H1.out.row.lt _ z).2; omega)
    clear ho9 hg3 c1 H1 B4 G1 Hrd
    go_wp2_with fail
    go_loopw [7, 9] (fun lv iv wr => ∃ i : Nat, i ≤ NL.length ∧ iv = .int .i64 i ∧ Hid (AddR w3 wr r N m v lv L (mt i))) (fun _ iv _ => NL.length - (intOf iv).toNat)
    case atStart => exact ⟨0, Nat.zero_le _, rfl, Lib.hid (by rw [H0.out]; exact AddR.start H3.out)⟩
    case round =>
      obtain ⟨i, hi, rfl, HR⟩ := hrel
      obtain ⟨la, lc, rfl⟩ := own_slice HR.out.own
      obtain ⟨Z, eZ⟩ : ∃ Z, L ++ mt i = Z := ⟨_, rfl⟩
      have HZ := Lib.hid eZ
      rw [eZ] at HR ⊢
      clear eZ
      have Hrow9 := Lib.hid (own_bt HO9.out HR.out.bt H9.out)
      have B4r := Lib.hid ((HR.out.bt.block A4 (blk_lt B43.out) HA4.out).trans B43.out)
      by_cases hlt : i < NL.length
      · have hlt' : (i : Int) < NL.length := by omega
        obtain ⟨_, _, e0, _, hx⟩ := rd_at (rdRow_of_own Hrow9.out)
        obtain ⟨b9, o9, ea9, hz9⟩ := hx (by omega)
        have e09 := (Value.slice.inj e0).1
        rw [ea9] at e09
        subst e09
        have Hc9 := Lib.hid (hz9 i hlt)
        have Ht := Lib.hid (Htk.out i hlt)
        obtain ⟨n, en⟩ : ∃ n, NL[i] = n := ⟨_, rfl⟩
        rw [en] at Hc9 Ht
        clear ea9 hx e0 hz9 en
        by_cases hin : (p, n) ∈ L
        · have Hin := Lib.hid (decide_eq_true hin)
          have Hm2 := Lib.hid (Ht.out.1 hin)
          clear hin
          go_upto_region 8 with (fail)
          refine region_start (S := fun w' => Gr wr w') (by kernel_rfl) (by exact Gr.dr Gr.rfl') (fun wz hz0 hHeld => ?_)
          simp only [List.size_toArray, List.length_cons, List.length_nil, Nat.reduceAdd]
          refine wpAnyH_take (i := 0) (oi := ?_) (v := ?_) ?_ (by kernel_rfl) (by kernel_rfl) (by kernel_rfl) ?_ ?_ (by assumption) ?_; rotate_left 2; (focus (simp only [List.getElem?_toArray, List.getElem?_cons_zero]; rfl)); (focus (exact fun _ _ _ h => h)); first | (focus (refine Or.inl ⟨by rfl, ?_⟩; intro w hSw; (try dsimp only at hSw); (try dsimp only [Array.getD]); go_simp; (try with_reducible rfl))) | (focus (refine Or.inr ⟨by rfl, ?_⟩; rfl)) | fail "op 0"
          try simp only [Act.put, List.setIfInBounds_toArray, List.set_cons_zero, List.set_cons_succ]
          refine wpAnyH_take (i := 1) (oi := ?_) (v := ?_) ?_ (by kernel_rfl) (by kernel_rfl) (by kernel_rfl) ?_ ?_ (by assumption) ?_; rotate_left 2; (focus (simp only [List.getElem?_toArray, List.getElem?_cons_succ, List.getElem?_cons_zero]; rfl)); (focus (exact fun _ _ _ h => h)); first | (focus (refine Or.inl ⟨by rfl, ?_⟩; intro w hSw; (try dsimp only at hSw); refine (exec_load_row 31 (.tmp 4) (by rfl) A4 (by rfl) _ (ptC p).toArray (0, 0) _ (hSw.blk B4r.out) Try.underlying31 rfl info_pt).trans ?_; with_reducible rfl)) | (focus (refine Or.inr ⟨by rfl, ?_⟩; rfl)) | fail "op 1"
          try simp only [Act.put, List.setIfInBounds_toArray, List.set_cons_zero, List.set_cons_succ]
          refine wpAnyH_take (i := 2) (oi := ?_) (v := ?_) ?_ (by kernel_rfl) (by kernel_rfl) (by kernel_rfl) ?_ ?_ (by assumption) ?_; rotate_left 2; (focus (simp only [List.getElem?_toArray, List.getElem?_cons_succ, List.getElem?_cons_zero]; rfl)); (focus (exact fun _ _ _ h => h)); first | (focus (refine Or.inl ⟨by rfl, ?_⟩; intro w hSw; (try dsimp only at hSw); (try dsimp only [Array.getD]); go_simp; (try with_reducible rfl))) | (focus (refine Or.inr ⟨by rfl, ?_⟩; rfl)) | fail "op 2"
          try simp only [Act.put, List.setIfInBounds_toArray, List.set_cons_zero, List.set_cons_succ]
          refine wpAnyH_take (i := 3) (oi := ?_) (v := ?_) ?_ (by kernel_rfl) (by kernel_rfl) (by kernel_rfl) ?_ ?_ (by assumption) ?_; rotate_left 2; (focus (simp only [List.getElem?_toArray, List.getElem?_cons_succ, List.getElem?_cons_zero]; rfl)); (focus (exact fun _ _ _ h => h)); first | (focus (refine Or.inl ⟨by rfl, ?_⟩; intro w hSw; (try dsimp only at hSw); (try dsimp only [Array.getD]); go_simp; (try with_reducible rfl))) | (focus (refine Or.inr ⟨by rfl, ?_⟩; rfl)) | fail "op 3"
          try simp only [Act.put, List.setIfInBounds_toArray, List.set_cons_zero, List.set_cons_succ]
          refine wpAnyH_take (i := 4) (oi := ?_) (v := ?_) ?_ (by kernel_rfl) (by kernel_rfl) (by kernel_rfl) ?_ ?_ (by assumption) ?_; rotate_left 2; (focus (simp only [List.getElem?_toArray, List.getElem?_cons_succ, List.getElem?_cons_zero]; rfl)); (focus (exact fun _ _ _ h => h)); first | (focus (refine Or.inl ⟨by rfl, ?_⟩; intro w hSw; (try dsimp only at hSw); (try dsimp only [Array.getD]); go_simp; (try with_reducible rfl))) | (focus (refine Or.inr ⟨by rfl, ?_⟩; rfl)) | fail "op 4"
          try simp only [Act.put, List.setIfInBounds_toArray, List.set_cons_zero, List.set_cons_succ]
          refine wpAnyH_take (i := 5) (oi := ?_) (v := ?_) ?_ (by kernel_rfl) (by kernel_rfl) (by kernel_rfl) ?_ ?_ (by assumption) ?_; rotate_left 2; (focus (simp only [List.getElem?_toArray, List.getElem?_cons_succ, List.getElem?_cons_zero]; rfl)); (focus (exact fun _ _ _ h => h)); first | (focus (refine Or.inl ⟨by rfl, ?_⟩; intro w hSw; (try dsimp only at hSw); have c9' := keepc hSw Hc9.out; (try dsimp only [Array.getD]); go_simp; (try with_reducible rfl))) | (focus (refine Or.inr ⟨by rfl, ?_⟩; rfl)) | fail "op 5"
          try simp only [Act.put, List.setIfInBounds_toArray, List.set_cons_zero, List.set_cons_succ]
          refine wpAnyH_ready (rs := [6]) (by kernel_rfl) (by simp) ?_
          refine AllReadyH.cons (o := ?_) ?_ (fun K hK => ?_) AllReadyH.nil; rotate_left; (focus (simp only [List.getElem?_toArray, List.getElem?_cons_succ, List.getElem?_cons_zero]; rfl))
          go_simp
          go_at_call 40
          refine (rhas_calls _ r m v L (HR.out.obj.rd.gr hHeld) (by omega) p n).mono ?_
          rintro e w4 ⟨rfl, hg4⟩
          rw [Hin.out]
          refine hK.out _ _ (hHeld.tr hg4) (fun hHeld => ?_)
          clear hK K
          try simp only [Act.put, List.setIfInBounds_toArray, List.set_cons_zero, List.set_cons_succ]
          refine wpAnyH_take (i := 7) (oi := ?_) (v := ?_) ?_ (by kernel_rfl) (by kernel_rfl) (by kernel_rfl) ?_ ?_ (by assumption) ?_; rotate_left 2; (focus (simp only [List.getElem?_toArray, List.getElem?_cons_succ, List.getElem?_cons_zero]; rfl)); (focus (exact fun _ _ _ h => h)); first | (focus (refine Or.inl ⟨by rfl, ?_⟩; intro w hSw; (try dsimp only at hSw); (try dsimp only [Array.getD]); go_simp; (try with_reducible rfl))) | (focus (refine Or.inr ⟨by rfl, ?_⟩; rfl)) | fail "op 7"
          try simp only [Act.put, List.setIfInBounds_toArray, List.set_cons_zero, List.set_cons_succ]
          refine wpAnyH_done (by kernel_rfl) ?_ _
          have HR4 := Lib.hid (HR.out.gr hHeld)
          clear hHeld hz0
          go_wp2_with fail
          go_roundw
          case rel => exact ⟨i + 1, by omega, by go_num, by rw [Hm2.out]; exact HR4⟩
          case measure => simp [intOf]; omega
        · have Hin := Lib.hid (decide_eq_false hin)
          have Hm2 := Lib.hid (Ht.out.2 hin)
          clear hin
          go_upto_region 8 with (fail)
          refine region_start (S := fun w' => Gr wr w') (by kernel_rfl) (by exact Gr.dr Gr.rfl') (fun wz hz0 hHeld => ?_)
          simp only [List.size_toArray, List.length_cons, List.length_nil, Nat.reduceAdd]
          refine wpAnyH_take (i := 0) (oi := ?_) (v := ?_) ?_ (by kernel_rfl) (by kernel_rfl) (by kernel_rfl) ?_ ?_ (by assumption) ?_; rotate_left 2; (focus (simp only [List.getElem?_toArray, List.getElem?_cons_zero]; rfl)); (focus (exact fun _ _ _ h => h)); first | (focus (refine Or.inl ⟨by rfl, ?_⟩; intro w hSw; (try dsimp only at hSw); (try dsimp only [Array.getD]); go_simp; (try with_reducible rfl))) | (focus (refine Or.inr ⟨by rfl, ?_⟩; rfl)) | fail "op 0"
          try simp only [Act.put, List.setIfInBounds_toArray, List.set_cons_zero, List.set_cons_succ]
          refine wpAnyH_take (i := 1) (oi := ?_) (v := ?_) ?_ (by kernel_rfl) (by kernel_rfl) (by kernel_rfl) ?_ ?_ (by assumption) ?_; rotate_left 2; (focus (simp only [List.getElem?_toArray, List.getElem?_cons_succ, List.getElem?_cons_zero]; rfl)); (focus (exact fun _ _ _ h => h)); first | (focus (refine Or.inl ⟨by rfl, ?_⟩; intro w hSw; (try dsimp only at hSw); refine (exec_load_row 31 (.tmp 4) (by rfl) A4 (by rfl) _ (ptC p).toArray (0, 0) _ (hSw.blk B4r.out) Try.underlying31 rfl info_pt).trans ?_; with_reducible rfl)) | (focus (refine Or.inr ⟨by rfl, ?_⟩; rfl)) | fail "op 1"
          try simp only [Act.put, List.setIfInBounds_toArray, List.set_cons_zero, List.set_cons_succ]
          refine wpAnyH_take (i := 2) (oi := ?_) (v := ?_) ?_ (by kernel_rfl) (by kernel_rfl) (by kernel_rfl) ?_ ?_ (by assumption) ?_; rotate_left 2; (focus (simp only [List.getElem?_toArray, List.getElem?_cons_succ, List.getElem?_cons_zero]; rfl)); (focus (exact fun _ _ _ h => h)); first | (focus (refine Or.inl ⟨by rfl, ?_⟩; intro w hSw; (try dsimp only at hSw); (try dsimp only [Array.getD]); go_simp; (try with_reducible rfl))) | (focus (refine Or.inr ⟨by rfl, ?_⟩; rfl)) | fail "op 2"
          try simp only [Act.put, List.setIfInBounds_toArray, List.set_cons_zero, List.set_cons_succ]
          refine wpAnyH_take (i := 3) (oi := ?_) (v := ?_) ?_ (by kernel_rfl) (by kernel_rfl) (by kernel_rfl) ?_ ?_ (by assumption) ?_; rotate_left 2; (focus (simp only [List.getElem?_toArray, List.getElem?_cons_succ, List.getElem?_cons_zero]; rfl)); (focus (exact fun _ _ _ h => h)); first | (focus (refine Or.inl ⟨by rfl, ?_⟩; intro w hSw; (try dsimp only at hSw); (try dsimp only [Array.getD]); go_simp; (try with_reducible rfl))) | (focus (refine Or.inr ⟨by rfl, ?_⟩; rfl)) | fail "op 3"
          try simp only [Act.put, List.setIfInBounds_toArray, List.set_cons_zero, List.set_cons_succ]
          refine wpAnyH_take (i := 4) (oi := ?_) (v := ?_) ?_ (by kernel_rfl) (by kernel_rfl) (by kernel_rfl) ?_ ?_ (by assumption) ?_; rotate_left 2; (focus (simp only [List.getElem?_toArray, List.getElem?_cons_succ, List.getElem?_cons_zero]; rfl)); (focus (exact fun _ _ _ h => h)); first | (focus (refine Or.inl ⟨by rfl, ?_⟩; intro w hSw; (try dsimp only at hSw); (try dsimp only [Array.getD]); go_simp; (try with_reducible rfl))) | (focus (refine Or.inr ⟨by rfl, ?_⟩; rfl)) | fail "op 4"
          try simp only [Act.put, List.setIfInBounds_toArray, List.set_cons_zero, List.set_cons_succ]
          refine wpAnyH_take (i := 5) (oi := ?_) (v := ?_) ?_ (by kernel_rfl) (by kernel_rfl) (by kernel_rfl) ?_ ?_ (by assumption) ?_; rotate_left 2; (focus (simp only [List.getElem?_toArray, List.getElem?_cons_succ, List.getElem?_cons_zero]; rfl)); (focus (exact fun _ _ _ h => h)); first | (focus (refine Or.inl ⟨by rfl, ?_⟩; intro w hSw; (try dsimp only at hSw); have c9' := keepc hSw Hc9.out; (try dsimp only [Array.getD]); go_simp; (try with_reducible rfl))) | (focus (refine Or.inr ⟨by rfl, ?_⟩; rfl)) | fail "op 5"
          try simp only [Act.put, List.setIfInBounds_toArray, List.set_cons_zero, List.set_cons_succ]
          refine wpAnyH_ready (rs := [6]) (by kernel_rfl) (by simp) ?_
          refine AllReadyH.cons (o := ?_) ?_ (fun K hK => ?_) AllReadyH.nil; rotate_left; (focus (simp only [List.getElem?_toArray, List.getElem?_cons_succ, List.getElem?_cons_zero]; rfl))
          go_simp
          go_at_call 40
          refine (rhas_calls _ r m v L (HR.out.obj.rd.gr hHeld) (by omega) p n).mono ?_
          rintro e w4 ⟨rfl, hg4⟩
          rw [Hin.out]
          refine hK.out _ _ (hHeld.tr hg4) (fun hHeld => ?_)
          clear hK K
          try simp only [Act.put, List.setIfInBounds_toArray, List.set_cons_zero, List.set_cons_succ]
          refine wpAnyH_take (i := 7) (oi := ?_) (v := ?_) ?_ (by kernel_rfl) (by kernel_rfl) (by kernel_rfl) ?_ ?_ (by assumption) ?_; rotate_left 2; (focus (simp only [List.getElem?_toArray, List.getElem?_cons_succ, List.getElem?_cons_zero]; rfl)); (focus (exact fun _ _ _ h => h)); first | (focus (refine Or.inl ⟨by rfl, ?_⟩; intro w hSw; (try dsimp only at hSw); (try dsimp only [Array.getD]); go_simp; (try with_reducible rfl))) | (focus (refine Or.inr ⟨by rfl, ?_⟩; rfl)) | fail "op 7"
          try simp only [Act.put, List.setIfInBounds_toArray, List.set_cons_zero, List.set_cons_succ]
          refine wpAnyH_done (by kernel_rfl) ?_ _
          have HR4 := Lib.hid (HR.out.gr hHeld)
          have B5 := Lib.hid (hHeld.blk B4r.out)
          have C5 := Lib.hid (keepc hHeld Hc9.out)
          obtain ⟨w5, e5⟩ : ∃ w5, w4 = w5 := ⟨_, rfl⟩
          rw [e5] at HR4 B5 C5 ⊢
          have HlA := Lib.hid (show ¬ (Value.slice la Z.length lc).ownBlock = some A4 from fun z => (HR.out.at_ _ z).elim HA4.out (fun q => by have := blk_lt B43.out; omega))
          have Hl9 := Lib.hid (show ¬ (Value.slice la Z.length lc).ownBlock = some b9 from fun z => (HR.out.at_ _ z).elim (H9.out b9 rfl) (fun q => by have := (HO9.out.lt b9 rfl).2; omega))
          have hml := Hkl.out i
          have hll : Z.length ≤ 1000 := by rw [← HZ.out, List.length_append]; omega
          have Hown := HR4.out.own
          rw [HZ.out] at Hown
          replace Hown := Lib.hid Hown
          have HN5 := Lib.hid HR4.out.obj.pN
          clear hHeld hz0 e5 hml HR
          go_upto_region 10 with (fail)
          refine region_start (S := fun w' => Bt (fun k => (Value.slice la Z.length lc).ownBlock = some k) w5 w') (by kernel_rfl) (by exact Bt.of (Gr.dr Gr.rfl')) (fun wz hz0 hHeld => ?_)
          simp only [List.size_toArray, List.length_cons, List.length_nil, Nat.reduceAdd]
          refine wpAnyH_take (i := 0) (oi := ?_) (v := ?_) ?_ (by kernel_rfl) (by kernel_rfl) (by kernel_rfl) ?_ ?_ (by assumption) ?_; rotate_left 2; (focus (simp only [List.getElem?_toArray, List.getElem?_cons_zero]; rfl)); (focus (exact fun _ _ _ h => h)); first | (focus (refine Or.inl ⟨by rfl, ?_⟩; intro w hSw; (try dsimp only at hSw); (try dsimp only [Array.getD]); go_simp; (try with_reducible rfl))) | (focus (refine Or.inr ⟨by rfl, ?_⟩; rfl)) | fail "op 0"
          try simp only [Act.put, List.setIfInBounds_toArray, List.set_cons_zero, List.set_cons_succ]
          refine wpAnyH_take (i := 1) (oi := ?_) (v := ?_) ?_ (by kernel_rfl) (by kernel_rfl) (by kernel_rfl) ?_ ?_ (by assumption) ?_; rotate_left 2; (focus (simp only [List.getElem?_toArray, List.getElem?_cons_succ, List.getElem?_cons_zero]; rfl)); (focus (exact fun _ _ _ h => h)); first | (focus (refine Or.inl ⟨by rfl, ?_⟩; intro w hSw; (try dsimp only at hSw); refine (exec_load_row 31 (.tmp 4) (by rfl) A4 (by rfl) _ (ptC p).toArray (0, 0) _ ((hSw.block A4 (blk_lt B5.out) HlA.out).trans B5.out) Try.underlying31 rfl info_pt).trans ?_; with_reducible rfl)) | (focus (refine Or.inr ⟨by rfl, ?_⟩; rfl)) | fail "op 1"
          try simp only [Act.put, List.setIfInBounds_toArray, List.set_cons_zero, List.set_cons_succ]
          refine wpAnyH_take (i := 2) (oi := ?_) (v := ?_) ?_ (by kernel_rfl) (by kernel_rfl) (by kernel_rfl) ?_ ?_ (by assumption) ?_; rotate_left 2; (focus (simp only [List.getElem?_toArray, List.getElem?_cons_succ, List.getElem?_cons_zero]; rfl)); (focus (exact fun _ _ _ h => h)); first | (focus (refine Or.inl ⟨by rfl, ?_⟩; intro w hSw; (try dsimp only at hSw); (try dsimp only [Array.getD]); go_simp; (try with_reducible rfl))) | (focus (refine Or.inr ⟨by rfl, ?_⟩; rfl)) | fail "op 2"
          try simp only [Act.put, List.setIfInBounds_toArray, List.set_cons_zero, List.set_cons_succ]
          refine wpAnyH_take (i := 3) (oi := ?_) (v := ?_) ?_ (by kernel_rfl) (by kernel_rfl) (by kernel_rfl) ?_ ?_ (by assumption) ?_; rotate_left 2; (focus (simp only [List.getElem?_toArray, List.getElem?_cons_succ, List.getElem?_cons_zero]; rfl)); (focus (exact fun _ _ _ h => h)); first | (focus (refine Or.inl ⟨by rfl, ?_⟩; intro w hSw; (try dsimp only at hSw); (try dsimp only [Array.getD]); go_simp; (try with_reducible rfl))) | (focus (refine Or.inr ⟨by rfl, ?_⟩; rfl)) | fail "op 3"
          try simp only [Act.put, List.setIfInBounds_toArray, List.set_cons_zero, List.set_cons_succ]
          refine wpAnyH_take (i := 4) (oi := ?_) (v := ?_) ?_ (by kernel_rfl) (by kernel_rfl) (by kernel_rfl) ?_ ?_ (by assumption) ?_; rotate_left 2; (focus (simp only [List.getElem?_toArray, List.getElem?_cons_succ, List.getElem?_cons_zero]; rfl)); (focus (exact fun _ _ _ h => h)); first | (focus (refine Or.inl ⟨by rfl, ?_⟩; intro w hSw; (try dsimp only at hSw); (try dsimp only [Array.getD]); go_simp; (try with_reducible rfl))) | (focus (refine Or.inr ⟨by rfl, ?_⟩; rfl)) | fail "op 4"
          try simp only [Act.put, List.setIfInBounds_toArray, List.set_cons_zero, List.set_cons_succ]
          refine wpAnyH_take (i := 5) (oi := ?_) (v := ?_) ?_ (by kernel_rfl) (by kernel_rfl) (by kernel_rfl) ?_ ?_ (by assumption) ?_; rotate_left 2; (focus (simp only [List.getElem?_toArray, List.getElem?_cons_succ, List.getElem?_cons_zero]; rfl)); (focus (exact fun _ _ _ h => h)); first | (focus (refine Or.inl ⟨by rfl, ?_⟩; intro w hSw; (try dsimp only at hSw); have c9' := hSw.cell (p := ⟨b9, o9 + i, none⟩) Hl9.out C5.out; (try dsimp only [Array.getD]); go_simp; (try with_reducible rfl))) | (focus (refine Or.inr ⟨by rfl, ?_⟩; rfl)) | fail "op 5"
          try simp only [Act.put, List.setIfInBounds_toArray, List.set_cons_zero, List.set_cons_succ]
          refine wpAnyH_take (i := 6) (oi := ?_) (v := ?_) ?_ (by kernel_rfl) (by kernel_rfl) (by kernel_rfl) ?_ ?_ (by assumption) ?_; rotate_left 2; (focus (simp only [List.getElem?_toArray, List.getElem?_cons_succ, List.getElem?_cons_zero]; rfl)); (focus (exact fun _ _ _ h => h)); first | (focus (refine Or.inl ⟨by rfl, ?_⟩; intro w hSw; (try dsimp only at hSw); (try dsimp only [Array.getD]); go_simp; (try with_reducible rfl))) | (focus (refine Or.inr ⟨by rfl, ?_⟩; rfl)) | fail "op 6"
          try simp only [Act.put, List.setIfInBounds_toArray, List.set_cons_zero, List.set_cons_succ]
          refine wpAnyH_ready (rs := [7]) (by kernel_rfl) (by simp) ?_
          refine AllReadyH.cons (o := ?_) ?_ (fun K hK => ?_) AllReadyH.nil; rotate_left; (focus (simp only [List.getElem?_toArray, List.getElem?_cons_succ, List.getElem?_cons_zero]; rfl))
          rw [if_pos (by rfl)]
          refine wp_lit_rh (.tmp 41) rfl (p, n) rfl (fun w6 e6 => ?_)
          have hg6 : Gr w5 w6 := by rw [← e6]; exact hz0.tr (Gr.al Gr.rfl' _)
          have hA6 := heap_alloc_new wz (.cells (hkC (p, n)).toArray 75)
          rw [e6] at hA6
          obtain ⟨A6, eA6⟩ : ∃ A, wz.heap.size = A := ⟨_, rfl⟩
          rw [eA6] at hA6 ⊢
          refine hK.out _ _ (Bt.of hg6) (fun hHeld => ?_)
          clear hK K
          try simp only [Act.put, List.setIfInBounds_toArray, List.set_cons_zero, List.set_cons_succ]
          refine wpAnyH_ready (rs := [8]) (by kernel_rfl) (by simp) ?_
          refine AllReadyH.cons (o := ?_) ?_ (fun K hK => ?_) AllReadyH.nil; rotate_left; (focus (simp only [List.getElem?_toArray, List.getElem?_cons_succ, List.getElem?_cons_zero]; rfl))
          rw [if_pos (by rfl)]
          refine wp_append_rh (.tmp 35) (.tmp 42) rfl N (.slice la Z.length lc) Z rfl (own_gr Hown.out hg6) (p, n) A6 rfl hA6 (by omega) (Nat.le_trans HN5.out hg6.size) (fun a' c' w7 hown7 harm7 => ?_)
          have hR7 := (HR4.out.gr hg6).snoc (y := (p, n)) (v' := .slice a' (Z.length + 1) c') (by rw [HZ.out]; exact hown7) (by rw [HZ.out]; exact harm7)
          have hbt7 : Bt (fun k => (Value.slice la Z.length lc).ownBlock = some k) w6 w7 := by
            rcases harm7 with ⟨_, hg7⟩ | ⟨g, cap, e7, _, hg7⟩
            · exact ⟨hg7.os, hg7.tape, hg7.output, hg7.size, fun k hk _ => hg7.block k hk (by simp)⟩
            · exact Bt.row hg7 (by rw [e7]; rfl)
          refine hK.out _ _ (hHeld.tr hbt7) (fun hHeld => ?_)
          clear hK K
          try simp only [Act.put, List.setIfInBounds_toArray, List.set_cons_zero, List.set_cons_succ]
          refine wpAnyH_take (i := 9) (oi := ?_) (v := ?_) ?_ (by kernel_rfl) (by kernel_rfl) (by kernel_rfl) ?_ ?_ (by assumption) ?_; rotate_left 2; (focus (simp only [List.getElem?_toArray, List.getElem?_cons_succ, List.getElem?_cons_zero]; rfl)); (focus (exact fun _ _ _ h => h)); first | (focus (refine Or.inl ⟨by rfl, ?_⟩; intro w hSw; (try dsimp only at hSw); (try dsimp only [Array.getD]); go_simp; (try with_reducible rfl))) | (focus (refine Or.inr ⟨by rfl, ?_⟩; rfl)) | fail "op 9"
          try simp only [Act.put, List.setIfInBounds_toArray, List.set_cons_zero, List.set_cons_succ]
          refine wpAnyH_done (by kernel_rfl) ?_ _
          have HR7 := Lib.hid hR7
          clear hHeld hz0 hR7 hbt7 harm7 hown7 hA6 e6 hg6 HR4 Hown
          go_wp2_with fail
          go_roundw
          case rel => exact ⟨i + 1, by omega, by go_num, by rw [Hm2.out]; exact HR7⟩
          case measure => simp [intOf]; omega
      · obtain rfl : i = NL.length := by omega
        rw [HK.out] at HR HZ
        have hml := Hkl.out NL.length
        rw [HK.out] at hml
        have hlen : Z.length = L.length + MH.length := by rw [← HZ.out]; exact List.length_append
        have c0 := HR.out.obj.c0
        have c1 := HR.out.obj.c1
        have hrl := blk_lt H3.out.blk
        clear hlt
        by_cases hgt : m < (Z.length : Int)
        · have HNo := Lib.hid (show ¬ addOk m L p ns from fun z => by have := Hao.out.1 z; omega)
          have Hl := Lib.hid hlen
          clear hlen
          go_wp2_with fail
          go_ret
          exact RAddPost.no HNo.out HR.out.obj (((Bt.of G3.out).tr HR.out.bt).mono (fun k _ hk => .inr hk))
        · have HYes := Lib.hid (show addOk m L p ns from Hao.out.2 (by omega))
          have fz := frozen_of_row wr r 1 _ _ HR.out.obj.blk
          have Hl := Lib.hid hlen
          clear hlen
          go_wp2_with fail
          go_ret
          have hs := HR.out.obj.set (L' := L ++ MH) HR.out.own HR.out.pr
          exact RAddPost.yes (v' := .slice la Z.length lc) HYes.out (by rw [EMH.out]; exact hs.1) ((((Bt.of G3.out).tr HR.out.bt).mono (fun k _ hk => .inr hk)).tr (hs.2.mono (fun k _ hk => .inl hk)))
end Go.Proofs.Ytijgbfhjimlklaa

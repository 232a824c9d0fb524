/- Hints: Add. -/
import Derived.Test.YtijgbfhjimlklaaHnE
namespace Go.Proofs.Ytijgbfhjimlklaa
open Go.RowKit Go.Maps

abbrev encH (l : List Hk) : List Value := l.flatMap fun x => hkC x
theorem info_hk : (Try.prog.info? 66).map (·.size) = some 7 := by kernel_rfl
theorem infoHk : (Try.prog.info? 66).map (fun i => (i.zero, i.size, i.bytes)) = some (some (.agg #[.string ⟨#[]⟩, .int .i64 0, .int .i64 0, .int .i64 0, .int .i64 0, .int .i64 0, .int .i64 0]), 7, 64) := by kernel_rfl
theorem hkC_one (x : Hk) : ∀ v ∈ hkC x, v.oneCell' = true := by
  intro v hv
  simp only [List.mem_cons, List.not_mem_nil, or_false] at hv
  rcases hv with rfl | rfl | rfl | rfl | rfl | rfl | rfl <;> rfl
/-- What is to be kept more: of the numbers below n. -/
def moreT (L : List Hk) (p : Pt) (ns : List Int) (n : Nat) : List Hk := ((nodesTo ns n).map fun k => (p, k)).filter fun x => decide (x ∉ L)
def moreH (L : List Hk) (p : Pt) (ns : List Int) : List Hk := moreT L p ns 16
theorem moreT_yes {L : List Hk} {p : Pt} {ns : List Int} {n : Nat} (h : (n : Int) ∈ ns) (h2 : (p, (n : Int)) ∉ L) : moreT L p ns (n + 1) = moreT L p ns n ++ [(p, (n : Int))] := by
  unfold moreT; rw [nodesTo_yes h, List.map_append, List.filter_append]; simp [h2]
theorem moreT_had {L : List Hk} {p : Pt} {ns : List Int} {n : Nat} (h : (n : Int) ∈ ns) (h2 : (p, (n : Int)) ∈ L) : moreT L p ns (n + 1) = moreT L p ns n := by
  unfold moreT; rw [nodesTo_yes h, List.map_append, List.filter_append]; simp [h2]
theorem moreT_no {L : List Hk} {p : Pt} {ns : List Int} {n : Nat} (h : ¬ (n : Int) ∈ ns) : moreT L p ns (n + 1) = moreT L p ns n := by
  unfold moreT; rw [nodesTo_no h]
theorem moreT_len (L : List Hk) (p : Pt) (ns : List Int) (n : Nat) : (moreT L p ns n).length ≤ n := by
  unfold moreT
  exact Nat.le_trans (List.length_filter_le _ _) (by rw [List.length_map]; exact nodesTo_len ns n)
theorem moreT_mem {L : List Hk} {p : Pt} {ns : List Int} {n : Nat} {x : Hk} (h : x ∈ moreT L p ns n) : x ∉ L ∧ x.1 = p ∧ 0 ≤ x.2 ∧ x.2 < n ∧ x.2 ∈ ns := by
  unfold moreT at h
  rw [List.mem_filter, List.mem_map] at h
  obtain ⟨⟨k, hk, rfl⟩, h2⟩ := h
  unfold nodesTo at hk
  rw [List.mem_filter, List.mem_map] at hk
  obtain ⟨⟨j, hj, rfl⟩, h3⟩ := hk
  rw [List.mem_range] at hj
  exact ⟨by simpa using h2, rfl, by show (0 : Int) ≤ (j : Int); omega, by show (j : Int) < n; omega, by simpa using h3⟩
theorem moreT_nodup (L : List Hk) (p : Pt) (ns : List Int) (n : Nat) : (moreT L p ns n).Nodup := by
  unfold moreT nodesTo
  refine List.Pairwise.filter _ ?_
  have h1 : ((List.range n).map Int.ofNat).Nodup := by
    rw [List.nodup_iff_pairwise_ne, List.pairwise_map]
    exact List.nodup_range.imp (fun h e => h (Int.ofNat.inj e))
  have h2 : (((List.range n).map Int.ofNat).filter fun x => decide (x ∈ ns)).Nodup := List.Pairwise.filter _ h1
  show List.Pairwise _ _
  rw [List.pairwise_map]
  exact (List.nodup_iff_pairwise_ne.1 h2).imp (fun h e => h (Prod.mk.inj e).2)
def addOk (m : Int) (L : List Hk) (p : Pt) (ns : List Int) : Prop := PtOk p ∧ (L.length : Int) + (moreH L p ns).length ≤ m
instance (m : Int) (L : List Hk) (p : Pt) (ns : List Int) : Decidable (addOk m L p ns) := by unfold addOk; exact inferInstance
theorem topI {x : Int} (h0 : 0 ≤ x) (h1 : x ≤ topN) : I64 x := by unfold topN at h1; unfold I64; omega
theorem ser_size {s : ByteArray} (h : SerOk s) : s.size ≤ maxLen := by have := h.2.1; unfold maxLen; omega
theorem ptok_hk {p : Pt} (h : PtOk p) (hv : I64 p.v) {n : Int} (hn : I64 n) : HkI (p, n) := by
  obtain ⟨h1, h2, h3, h4, h5, h6, h7, h8⟩ := h
  exact ⟨ser_size h1, ⟨topI h2.1 h2.2, hv, topI (show 0 ≤ p.c by omega) h4, (show I64 p.st by unfold I64; omega), topI (show 0 ≤ p.q by omega) h6⟩, hn⟩
def AddPost (w : World) (p : Nat) (mb : Option Nat) (m : Int) (L : List Hk) (x : Pt) (ns : List Int) (e : Ending) (w' : World) : Prop :=
  e = .returned (.bool (decide (addOk m L x ns))) ∧ HAt w' p mb m (if addOk m L x ns then L ++ moreH L x ns else L) ∧ Bt (fun k => mb = some k) w w'
set_option maxRecDepth 100000 in
set_option maxHeartbeats 4000000 in
theorem add_calls (w : World) (p : Nat) (mb : Option Nat) (m : Int) (L : List Hk) (h : HAt w p mb m L) (hm : 0 ≤ m ∧ m ≤ 600) (hmb : mb = none → m = 0) (hL : L.length ≤ 600) (x : Pt) (hv : I64 x.v) (v : Value) (ns : List Int) (hns : rdRow w 1 v ns.length (encI ns)) (hnl : ns.length ≤ 1000000) :
    Calls Try.prog 12 #[.pointer (some ⟨p, 0, none⟩), ptV x, v] w (AddPost w p mb m L x ns) := by
  unfold AddPost
  have Hch := Lib.hid (fun W => checkp_calls x W)
  have H := Lib.hid h
  by_cases hok : PtOk x
  rotate_left
  · have hno : ¬ addOk m L x ns := fun z => hok z.1
    rw [decide_eq_false hno, if_neg hno]
    rw [decide_eq_false hok] at Hch
    unfold errOf at Hch
    clear hno hok h
    go_enter Try.func12, Try.ntmps12
    go_wp2_with fail
    refine (Hch.out _).mono ?_
    rintro e w1 ⟨rfl, hg⟩
    have hg1 := (Gr.al (Gr.rfl' (w := w)) (.cells (ptC x).toArray 31)).tr hg
    have H1 := Lib.hid (H.out.gr hg1); have G1 := Lib.hid hg1
    clear hg hg1
    go_wp2_with fail
    go_ret
    exact ⟨rfl, H1.out, .of G1.out⟩
  · have Hcon := Lib.hid (fun (n : Int) W (hg : Gr w W) => contains_calls v ns n W (hns.gr hg) hnl)
    obtain ⟨va, vc, rfl⟩ : ∃ a c, v = .slice a ns.length c := by obtain ⟨_, a, c, e, _⟩ := hns; exact ⟨a, c, e⟩
    rw [decide_eq_true hok] at Hch
    unfold errOf at Hch
    have Hhk := Lib.hid (fun (n : Int) (hn : I64 n) => ptok_hk hok hv hn)
    have hao : addOk m L x ns ↔ (L.length : Int) + (moreH L x ns).length ≤ m := ⟨fun z => z.2, fun z => ⟨hok, z⟩⟩
    have Hao := Lib.hid hao
    have Hy := Lib.hid (fun n => @moreT_yes L x ns n); have Hh := Lib.hid (fun n => @moreT_had L x ns n); have Hno := Lib.hid (fun n => @moreT_no L x ns n); have Hln := Lib.hid (moreT_len L x ns)
    have HM := Lib.hid (fun y => @moreT_mem L x ns 16 y); have HND := Lib.hid (moreT_nodup L x ns 16)
    have h16 : moreH L x ns = moreT L x ns 16 := rfl
    rw [h16] at Hao ⊢
    have h00 : moreT L x ns 0 = [] := rfl
    generalize moreT L x ns = mt at *
    clear h16 hao hok h hns
    go_enter Try.func12, Try.ntmps12
    go_wp2_with fail
    refine (Hch.out _).mono ?_
    rintro e w1 ⟨rfl, hg⟩
    obtain ⟨A4, eA4⟩ : ∃ A, w.heap.size = A := ⟨_, rfl⟩
    have hb4 : w1.heap[A4]? = some (.cells (ptC x).toArray 31 (0, 0)) := by rw [← eA4]; exact hg.blk (heap_alloc_new w _)
    have hg1 := (Gr.al (Gr.rfl' (w := w)) (.cells (ptC x).toArray 31)).tr hg
    have hA41 : A4 < w1.heap.size := blk_lt hb4
    have B4 := Lib.hid hb4; have G1 := Lib.hid hg1; have HA4 := Lib.hid eA4
    rw [eA4]
    clear hg hg1 hb4 eA4 Hch
    go_wp2_with fail
    obtain ⟨N0, eN0⟩ : ∃ N, w1.heap.size = N := ⟨_, rfl⟩
    have HN0 := Lib.hid (show w.heap.size ≤ N0 by rw [← eN0]; exact G1.out.size)
    have HG10 := Lib.hid (show N0 ≤ w1.heap.size by omega); have HN1 := Lib.hid (show w1.heap.size ≤ N0 by omega)
    go_loopw [7, 19] (fun u cv wr => ∃ n : Nat, n ≤ 16 ∧ cv = .int .i64 n ∧ Hid (wr.ownsRow N0 66 7 u (mt n).length (encH (mt n))) ∧ Hid (Gr w1 wr)) (fun _ cv _ => 16 - (intOf cv).toNat)
    case atStart => exact ⟨0, Nat.zero_le _, rfl, Lib.hid (by rw [h00]; exact World.ownsRow_nil _ _ _ _), Lib.hid Gr.rfl'⟩
    case round =>
      obtain ⟨n, hn, rfl, Hrow, Hg1⟩ := hrel
      obtain ⟨ua, uc, rfl⟩ := own_slice Hrow.out
      clear hA41 eN0 h00
      by_cases hlt : n < 16
      · have hlt' : (n : Int) < 16 := by omega
        have Hb4r := Lib.hid (Hg1.out.blk B4.out)
        go_upto_region 8 with (first | (refine wpList_load_rowg (by rfl) 31 (.tmp 4) rfl A4 rfl _ (ptC x).toArray (0, 0) _ Hb4r.out Try.underlying31 rfl info_pt ?_))
        obtain ⟨w3, e3, hg3, b3, s3⟩ := al_out wr (.cells #[.string x.s, .int .i64 x.t, .int .i64 x.v, .int .i64 x.c, .int .i64 x.st, .int .i64 x.q, .int .i64 (n : Int)] 66)
        rw [e3]
        clear e3
        have G3r := Lib.hid hg3
        have G3 := Lib.hid ((G1.out.tr Hg1.out).tr hg3)
        obtain ⟨A9, eA⟩ : ∃ A, wr.heap.size = A := ⟨_, rfl⟩
        rw [eA] at b3 ⊢
        have B9 := Lib.hid b3
        have Hki := Lib.hid (Hhk.out (n : Int) (by unfold I64; omega))
        clear b3 s3 hg3 eA Hb4r
        by_cases hcn : (n : Int) ∈ ns
        · have Hc3 := Lib.hid (fun W hg => Hcon.out (n : Int) W hg)
          rw [decide_eq_true hcn] at Hc3
          have Hcn := Lib.hid hcn
          clear hcn
          by_cases hnl : (x, (n : Int)) ∈ L
          · have Hl3 := Lib.hid (decide_eq_true hnl); have Hnl := Lib.hid hnl
            clear hnl
            refine region_start (S := fun w' => Gr w3 w') (by kernel_rfl) (by exact Gr.dr Gr.rfl') (fun wz hz0 hHeld => ?_)
            simp only [List.size_toArray, List.length_cons, List.length_nil, Nat.reduceAdd]
            refine wpAnyH_take (i := 0) (oi := ?_) (v := ?_) ?_ (by kernel_rfl) (by kernel_rfl) (by kernel_rfl) ?_ ?_ (by assumption) ?_; rotate_left 2; (focus (simp only [List.getElem?_toArray, List.getElem?_cons_zero]; rfl)); (focus (exact fun _ _ _ h => h)); first | (focus (refine Or.inl ⟨by rfl, ?_⟩; intro w hSw; (try dsimp only at hSw); (try dsimp only [Array.getD]); go_simp; (try with_reducible rfl))) | (focus (refine Or.inr ⟨by rfl, ?_⟩; rfl)) | fail "op 0"
            try simp only [Act.put, List.setIfInBounds_toArray, List.set_cons_zero, List.set_cons_succ]
            refine wpAnyH_take (i := 1) (oi := ?_) (v := ?_) ?_ (by kernel_rfl) (by kernel_rfl) (by kernel_rfl) ?_ ?_ (by assumption) ?_; rotate_left 2; (focus (simp only [List.getElem?_toArray, List.getElem?_cons_succ, List.getElem?_cons_zero]; rfl)); (focus (exact fun _ _ _ h => h)); first | (focus (refine Or.inl ⟨by rfl, ?_⟩; intro w hSw; (try dsimp only at hSw); (try dsimp only [Array.getD]); go_simp; (try with_reducible rfl))) | (focus (refine Or.inr ⟨by rfl, ?_⟩; rfl)) | fail "op 1"
            try simp only [Act.put, List.setIfInBounds_toArray, List.set_cons_zero, List.set_cons_succ]
            refine wpAnyH_ready (rs := [2]) (by kernel_rfl) (by simp) ?_
            refine AllReadyH.cons (o := ?_) ?_ (fun K hK => ?_) AllReadyH.nil; rotate_left; (focus (simp only [List.getElem?_toArray, List.getElem?_cons_succ, List.getElem?_cons_zero]; rfl))
            go_simp
            go_at_call 31
            refine (Hc3.out _ (G3.out.tr hHeld)).mono ?_
            rintro e w4 ⟨rfl, rfl⟩
            refine hK.out _ _ hHeld (fun hHeld => ?_)
            clear hK K
            try simp only [Act.put, List.setIfInBounds_toArray, List.set_cons_zero, List.set_cons_succ]
            refine wpAnyH_take (i := 3) (oi := ?_) (v := ?_) ?_ (by kernel_rfl) (by kernel_rfl) (by kernel_rfl) ?_ ?_ (by assumption) ?_; rotate_left 2; (focus (simp only [List.getElem?_toArray, List.getElem?_cons_succ, List.getElem?_cons_zero]; rfl)); (focus (exact fun _ _ _ h => h)); first | (focus (refine Or.inl ⟨by rfl, ?_⟩; intro w hSw; (try dsimp only at hSw); (try dsimp only [Array.getD]); go_simp; (try with_reducible rfl))) | (focus (refine Or.inr ⟨by rfl, ?_⟩; rfl)) | fail "op 3"
            try simp only [Act.put, List.setIfInBounds_toArray, List.set_cons_zero, List.set_cons_succ]
            refine wpAnyH_take (i := 4) (oi := ?_) (v := ?_) ?_ (by kernel_rfl) (by kernel_rfl) (by kernel_rfl) ?_ ?_ (by assumption) ?_; rotate_left 2; (focus (simp only [List.getElem?_toArray, List.getElem?_cons_succ, List.getElem?_cons_zero]; rfl)); (focus (exact fun _ _ _ h => h)); first | (focus (refine Or.inl ⟨by rfl, ?_⟩; intro w hSw; (try dsimp only at hSw); (try dsimp only [Array.getD]); go_simp; (try with_reducible rfl))) | (focus (refine Or.inr ⟨by rfl, ?_⟩; rfl)) | fail "op 4"
            try simp only [Act.put, List.setIfInBounds_toArray, List.set_cons_zero, List.set_cons_succ]
            refine wpAnyH_take (i := 5) (oi := ?_) (v := ?_) ?_ (by kernel_rfl) (by kernel_rfl) (by kernel_rfl) ?_ ?_ (by assumption) ?_; rotate_left 2; (focus (simp only [List.getElem?_toArray, List.getElem?_cons_succ, List.getElem?_cons_zero]; rfl)); (focus (exact fun _ _ _ h => h)); first | (focus (refine Or.inl ⟨by rfl, ?_⟩; intro w hSw; (try dsimp only at hSw); (try dsimp only [Array.getD]); go_simp; (try with_reducible rfl))) | (focus (refine Or.inr ⟨by rfl, ?_⟩; rfl)) | fail "op 5"
            try simp only [Act.put, List.setIfInBounds_toArray, List.set_cons_zero, List.set_cons_succ]
            refine wpAnyH_take (i := 6) (oi := ?_) (v := ?_) ?_ (by kernel_rfl) (by kernel_rfl) (by kernel_rfl) ?_ ?_ (by assumption) ?_; rotate_left 2; (focus (simp only [List.getElem?_toArray, List.getElem?_cons_succ, List.getElem?_cons_zero]; rfl)); (focus (exact fun _ _ _ h => h)); first | (focus (refine Or.inl ⟨by rfl, ?_⟩; intro w hSw; (try dsimp only at hSw); (try dsimp only [Array.getD]); go_simp; (try with_reducible rfl))) | (focus (refine Or.inr ⟨by rfl, ?_⟩; rfl)) | fail "op 6"
            try simp only [Act.put, List.setIfInBounds_toArray, List.set_cons_zero, List.set_cons_succ]
            refine wpAnyH_take (i := 7) (oi := ?_) (v := ?_) ?_ (by kernel_rfl) (by kernel_rfl) (by kernel_rfl) ?_ ?_ (by assumption) ?_; rotate_left 2; (focus (simp only [List.getElem?_toArray, List.getElem?_cons_succ, List.getElem?_cons_zero]; rfl)); (focus (exact fun _ _ _ h => h)); first | (focus (refine Or.inl ⟨by rfl, ?_⟩; intro w hSw; (try dsimp only at hSw); have c1 := (H.out.gr (G3.out.tr hSw)).cells.2; (try dsimp only [Array.getD]); go_simp; (try with_reducible rfl))) | (focus (refine Or.inr ⟨by rfl, ?_⟩; rfl)) | fail "op 7"
            try simp only [Act.put, List.setIfInBounds_toArray, List.set_cons_zero, List.set_cons_succ]
            refine wpAnyH_take (i := 8) (oi := ?_) (v := ?_) ?_ (by kernel_rfl) (by kernel_rfl) (by kernel_rfl) ?_ ?_ (by assumption) ?_; rotate_left 2; (focus (simp only [List.getElem?_toArray, List.getElem?_cons_succ, List.getElem?_cons_zero]; rfl)); (focus (exact fun _ _ _ h => h)); first | (focus (refine Or.inl ⟨by rfl, ?_⟩; intro w hSw; (try dsimp only at hSw); refine (exec_load_row 66 (.tmp 9) (by rfl) A9 (by rfl) _ (hkC (x, (n : Int))).toArray (0, 0) _ (hSw.blk B9.out) Try.underlying66 rfl info_hk).trans ?_; with_reducible rfl)) | (focus (refine Or.inr ⟨by rfl, ?_⟩; rfl)) | fail "op 8"
            try simp only [Act.put, List.setIfInBounds_toArray, List.set_cons_zero, List.set_cons_succ]
            refine wpAnyH_take (i := 9) (oi := ?_) (v := ?_) ?_ (by kernel_rfl) (by kernel_rfl) (by kernel_rfl) ?_ ?_ (by assumption) ?_; rotate_left 2; (focus (simp only [List.getElem?_toArray, List.getElem?_cons_succ, List.getElem?_cons_zero]; rfl)); (focus (exact fun _ _ _ h => h)); first | (focus (refine Or.inl ⟨by rfl, ?_⟩; intro w hSw; (try dsimp only at hSw); have l1 := (H.out.gr (G3.out.tr hSw)).map.look Hki.out; rw [Hl3.out] at l1; (try dsimp only [Array.getD]); go_simp; (try with_reducible rfl))) | (focus (refine Or.inr ⟨by rfl, ?_⟩; rfl)) | fail "op 9"
            try simp only [Act.put, List.setIfInBounds_toArray, List.set_cons_zero, List.set_cons_succ]
            refine wpAnyH_take (i := 10) (oi := ?_) (v := ?_) ?_ (by kernel_rfl) (by kernel_rfl) (by kernel_rfl) ?_ ?_ (by assumption) ?_; rotate_left 2; (focus (simp only [List.getElem?_toArray, List.getElem?_cons_succ, List.getElem?_cons_zero]; rfl)); (focus (exact fun _ _ _ h => h)); first | (focus (refine Or.inl ⟨by rfl, ?_⟩; intro w hSw; (try dsimp only at hSw); (try dsimp only [Array.getD]); go_simp; (try with_reducible rfl))) | (focus (refine Or.inr ⟨by rfl, ?_⟩; rfl)) | fail "op 10"
            try simp only [Act.put, List.setIfInBounds_toArray, List.set_cons_zero, List.set_cons_succ]
            refine wpAnyH_take (i := 11) (oi := ?_) (v := ?_) ?_ (by kernel_rfl) (by kernel_rfl) (by kernel_rfl) ?_ ?_ (by assumption) ?_; rotate_left 2; (focus (simp only [List.getElem?_toArray, List.getElem?_cons_succ, List.getElem?_cons_zero]; rfl)); (focus (exact fun _ _ _ h => h)); first | (focus (refine Or.inl ⟨by rfl, ?_⟩; intro w hSw; (try dsimp only at hSw); (try dsimp only [Array.getD]); go_simp; (try with_reducible rfl))) | (focus (refine Or.inr ⟨by rfl, ?_⟩; rfl)) | fail "op 11"
            try simp only [Act.put, List.setIfInBounds_toArray, List.set_cons_zero, List.set_cons_succ]
            refine wpAnyH_done (by kernel_rfl) ?_ _
            have G5 := Lib.hid (G3.out.tr hHeld); have G35 := Lib.hid hHeld
            clear hHeld hz0
            have G15 := Lib.hid ((Hg1.out.tr G3r.out).tr G35.out)
            obtain ⟨w5, hw5⟩ : ∃ w5, wz = w5 := ⟨_, rfl⟩
            rw [hw5] at G5 G35 G15 ⊢
            go_wp2_with fail
            go_roundw
            case rel => exact ⟨n + 1, by omega, by go_num, Lib.hid (by rw [Hh.out n Hcn.out Hnl.out]; exact own_gr (own_gr Hrow.out G3r.out) G35.out), G15⟩
            case measure => simp [intOf]; omega
          · have Hl3 := Lib.hid (decide_eq_false hnl); have Hnl := Lib.hid hnl
            clear hnl
            refine region_start (S := fun w' => Gr w3 w') (by kernel_rfl) (by exact Gr.dr Gr.rfl') (fun wz hz0 hHeld => ?_)
            simp only [List.size_toArray, List.length_cons, List.length_nil, Nat.reduceAdd]
            refine wpAnyH_take (i := 0) (oi := ?_) (v := ?_) ?_ (by kernel_rfl) (by kernel_rfl) (by kernel_rfl) ?_ ?_ (by assumption) ?_; rotate_left 2; (focus (simp only [List.getElem?_toArray, List.getElem?_cons_zero]; rfl)); (focus (exact fun _ _ _ h => h)); first | (focus (refine Or.inl ⟨by rfl, ?_⟩; intro w hSw; (try dsimp only at hSw); (try dsimp only [Array.getD]); go_simp; (try with_reducible rfl))) | (focus (refine Or.inr ⟨by rfl, ?_⟩; rfl)) | fail "op 0"
            try simp only [Act.put, List.setIfInBounds_toArray, List.set_cons_zero, List.set_cons_succ]
            refine wpAnyH_take (i := 1) (oi := ?_) (v := ?_) ?_ (by kernel_rfl) (by kernel_rfl) (by kernel_rfl) ?_ ?_ (by assumption) ?_; rotate_left 2; (focus (simp only [List.getElem?_toArray, List.getElem?_cons_succ, List.getElem?_cons_zero]; rfl)); (focus (exact fun _ _ _ h => h)); first | (focus (refine Or.inl ⟨by rfl, ?_⟩; intro w hSw; (try dsimp only at hSw); (try dsimp only [Array.getD]); go_simp; (try with_reducible rfl))) | (focus (refine Or.inr ⟨by rfl, ?_⟩; rfl)) | fail "op 1"
            try simp only [Act.put, List.setIfInBounds_toArray, List.set_cons_zero, List.set_cons_succ]
            refine wpAnyH_ready (rs := [2]) (by kernel_rfl) (by simp) ?_
            refine AllReadyH.cons (o := ?_) ?_ (fun K hK => ?_) AllReadyH.nil; rotate_left; (focus (simp only [List.getElem?_toArray, List.getElem?_cons_succ, List.getElem?_cons_zero]; rfl))
            go_simp
            go_at_call 31
            refine (Hc3.out _ (G3.out.tr hHeld)).mono ?_
            rintro e w4 ⟨rfl, rfl⟩
            refine hK.out _ _ hHeld (fun hHeld => ?_)
            clear hK K
            try simp only [Act.put, List.setIfInBounds_toArray, List.set_cons_zero, List.set_cons_succ]
            refine wpAnyH_take (i := 3) (oi := ?_) (v := ?_) ?_ (by kernel_rfl) (by kernel_rfl) (by kernel_rfl) ?_ ?_ (by assumption) ?_; rotate_left 2; (focus (simp only [List.getElem?_toArray, List.getElem?_cons_succ, List.getElem?_cons_zero]; rfl)); (focus (exact fun _ _ _ h => h)); first | (focus (refine Or.inl ⟨by rfl, ?_⟩; intro w hSw; (try dsimp only at hSw); (try dsimp only [Array.getD]); go_simp; (try with_reducible rfl))) | (focus (refine Or.inr ⟨by rfl, ?_⟩; rfl)) | fail "op 3"
            try simp only [Act.put, List.setIfInBounds_toArray, List.set_cons_zero, List.set_cons_succ]
            refine wpAnyH_take (i := 4) (oi := ?_) (v := ?_) ?_ (by kernel_rfl) (by kernel_rfl) (by kernel_rfl) ?_ ?_ (by assumption) ?_; rotate_left 2; (focus (simp only [List.getElem?_toArray, List.getElem?_cons_succ, List.getElem?_cons_zero]; rfl)); (focus (exact fun _ _ _ h => h)); first | (focus (refine Or.inl ⟨by rfl, ?_⟩; intro w hSw; (try dsimp only at hSw); (try dsimp only [Array.getD]); go_simp; (try with_reducible rfl))) | (focus (refine Or.inr ⟨by rfl, ?_⟩; rfl)) | fail "op 4"
            try simp only [Act.put, List.setIfInBounds_toArray, List.set_cons_zero, List.set_cons_succ]
            refine wpAnyH_take (i := 5) (oi := ?_) (v := ?_) ?_ (by kernel_rfl) (by kernel_rfl) (by kernel_rfl) ?_ ?_ (by assumption) ?_; rotate_left 2; (focus (simp only [List.getElem?_toArray, List.getElem?_cons_succ, List.getElem?_cons_zero]; rfl)); (focus (exact fun _ _ _ h => h)); first | (focus (refine Or.inl ⟨by rfl, ?_⟩; intro w hSw; (try dsimp only at hSw); (try dsimp only [Array.getD]); go_simp; (try with_reducible rfl))) | (focus (refine Or.inr ⟨by rfl, ?_⟩; rfl)) | fail "op 5"
            try simp only [Act.put, List.setIfInBounds_toArray, List.set_cons_zero, List.set_cons_succ]
            refine wpAnyH_take (i := 6) (oi := ?_) (v := ?_) ?_ (by kernel_rfl) (by kernel_rfl) (by kernel_rfl) ?_ ?_ (by assumption) ?_; rotate_left 2; (focus (simp only [List.getElem?_toArray, List.getElem?_cons_succ, List.getElem?_cons_zero]; rfl)); (focus (exact fun _ _ _ h => h)); first | (focus (refine Or.inl ⟨by rfl, ?_⟩; intro w hSw; (try dsimp only at hSw); (try dsimp only [Array.getD]); go_simp; (try with_reducible rfl))) | (focus (refine Or.inr ⟨by rfl, ?_⟩; rfl)) | fail "op 6"
            try simp only [Act.put, List.setIfInBounds_toArray, List.set_cons_zero, List.set_cons_succ]
            refine wpAnyH_take (i := 7) (oi := ?_) (v := ?_) ?_ (by kernel_rfl) (by kernel_rfl) (by kernel_rfl) ?_ ?_ (by assumption) ?_; rotate_left 2; (focus (simp only [List.getElem?_toArray, List.getElem?_cons_succ, List.getElem?_cons_zero]; rfl)); (focus (exact fun _ _ _ h => h)); first | (focus (refine Or.inl ⟨by rfl, ?_⟩; intro w hSw; (try dsimp only at hSw); have c1 := (H.out.gr (G3.out.tr hSw)).cells.2; (try dsimp only [Array.getD]); go_simp; (try with_reducible rfl))) | (focus (refine Or.inr ⟨by rfl, ?_⟩; rfl)) | fail "op 7"
            try simp only [Act.put, List.setIfInBounds_toArray, List.set_cons_zero, List.set_cons_succ]
            refine wpAnyH_take (i := 8) (oi := ?_) (v := ?_) ?_ (by kernel_rfl) (by kernel_rfl) (by kernel_rfl) ?_ ?_ (by assumption) ?_; rotate_left 2; (focus (simp only [List.getElem?_toArray, List.getElem?_cons_succ, List.getElem?_cons_zero]; rfl)); (focus (exact fun _ _ _ h => h)); first | (focus (refine Or.inl ⟨by rfl, ?_⟩; intro w hSw; (try dsimp only at hSw); refine (exec_load_row 66 (.tmp 9) (by rfl) A9 (by rfl) _ (hkC (x, (n : Int))).toArray (0, 0) _ (hSw.blk B9.out) Try.underlying66 rfl info_hk).trans ?_; with_reducible rfl)) | (focus (refine Or.inr ⟨by rfl, ?_⟩; rfl)) | fail "op 8"
            try simp only [Act.put, List.setIfInBounds_toArray, List.set_cons_zero, List.set_cons_succ]
            refine wpAnyH_take (i := 9) (oi := ?_) (v := ?_) ?_ (by kernel_rfl) (by kernel_rfl) (by kernel_rfl) ?_ ?_ (by assumption) ?_; rotate_left 2; (focus (simp only [List.getElem?_toArray, List.getElem?_cons_succ, List.getElem?_cons_zero]; rfl)); (focus (exact fun _ _ _ h => h)); first | (focus (refine Or.inl ⟨by rfl, ?_⟩; intro w hSw; (try dsimp only at hSw); have l1 := (H.out.gr (G3.out.tr hSw)).map.look Hki.out; rw [Hl3.out] at l1; (try dsimp only [Array.getD]); go_simp; (try with_reducible rfl))) | (focus (refine Or.inr ⟨by rfl, ?_⟩; rfl)) | fail "op 9"
            try simp only [Act.put, List.setIfInBounds_toArray, List.set_cons_zero, List.set_cons_succ]
            refine wpAnyH_take (i := 10) (oi := ?_) (v := ?_) ?_ (by kernel_rfl) (by kernel_rfl) (by kernel_rfl) ?_ ?_ (by assumption) ?_; rotate_left 2; (focus (simp only [List.getElem?_toArray, List.getElem?_cons_succ, List.getElem?_cons_zero]; rfl)); (focus (exact fun _ _ _ h => h)); first | (focus (refine Or.inl ⟨by rfl, ?_⟩; intro w hSw; (try dsimp only at hSw); (try dsimp only [Array.getD]); go_simp; (try with_reducible rfl))) | (focus (refine Or.inr ⟨by rfl, ?_⟩; rfl)) | fail "op 10"
            try simp only [Act.put, List.setIfInBounds_toArray, List.set_cons_zero, List.set_cons_succ]
            refine wpAnyH_take (i := 11) (oi := ?_) (v := ?_) ?_ (by kernel_rfl) (by kernel_rfl) (by kernel_rfl) ?_ ?_ (by assumption) ?_; rotate_left 2; (focus (simp only [List.getElem?_toArray, List.getElem?_cons_succ, List.getElem?_cons_zero]; rfl)); (focus (exact fun _ _ _ h => h)); first | (focus (refine Or.inl ⟨by rfl, ?_⟩; intro w hSw; (try dsimp only at hSw); (try dsimp only [Array.getD]); go_simp; (try with_reducible rfl))) | (focus (refine Or.inr ⟨by rfl, ?_⟩; rfl)) | fail "op 11"
            try simp only [Act.put, List.setIfInBounds_toArray, List.set_cons_zero, List.set_cons_succ]
            refine wpAnyH_done (by kernel_rfl) ?_ _
            have G5 := Lib.hid (G3.out.tr hHeld); have G35 := Lib.hid hHeld
            clear hHeld hz0
            have G15 := Lib.hid ((Hg1.out.tr G3r.out).tr G35.out)
            obtain ⟨w5, hw5⟩ : ∃ w5, wz = w5 := ⟨_, rfl⟩
            rw [hw5] at G5 G35 G15 ⊢
            have B95 := Lib.hid (G35.out.blk B9.out)
            go_wp2_with (first | (refine wpList_load_rowg (by rfl) 66 (.tmp 9) rfl A9 rfl _ (hkC (x, (n : Int))).toArray (0, 0) _ B95.out Try.underlying66 rfl info_hk ?_) | (at_builtin; refine Hid.out ?_))
            apply Lib.hid
            have Hr5 := own_gr (own_gr Hrow.out G3r.out) (G35.out.al (.cells (hkC (x, (n : Int))).toArray 66))
            refine wpList_snoc (fun y : Hk => hkC y) 7 64 (fun _ => rfl) (by decide) (by decide) hkC_one rfl (.tmp 37) (.tmp 39) 64 rfl N0 66 _ Try.underlying64 infoHk rfl (.slice ua (mt n).length uc) (mt n) rfl Hr5 (x, (n : Int)) w5.heap.size rfl (heap_alloc_new w5 _) (by have := Hln.out n; omega) (by have h1 := G15.out.size; have h2 := HG10.out; simp; omega) (fun a6 c6 w6 ho6 hg6 hat6 => ?_)
            have hyy := Hy.out n Hcn.out Hnl.out
            have G6 := Lib.hid (gr_gb (G15.out.al (.cells (hkC (x, (n : Int))).toArray 66)) hg6 (fun j hj => by have := (Hr5.lt j hj).1; have := HN1.out; omega))
            have Hrow6 := Lib.hid (show w6.ownsRow N0 66 7 (.slice a6 ((mt n).length + 1) c6) (mt (n + 1)).length (encH (mt (n + 1))) by rw [hyy]; exact ho6)
            clear ho6 hg6 hat6 hyy Hr5
            go_wp2_with fail
            go_roundw
            case rel => exact ⟨n + 1, by omega, by go_num, Hrow6, G6⟩
            case measure => simp [intOf]; omega
        · have Hc3 := Lib.hid (fun W hg => Hcon.out (n : Int) W hg)
          rw [decide_eq_false hcn] at Hc3
          have Hcn := Lib.hid hcn
          clear hcn
          refine region_start (S := fun w' => Gr w3 w') (by kernel_rfl) (by exact Gr.dr Gr.rfl') (fun wz hz0 hHeld => ?_)
          simp only [List.size_toArray, List.length_cons, List.length_nil, Nat.reduceAdd]
          refine wpAnyH_take (i := 0) (oi := ?_) (v := ?_) ?_ (by kernel_rfl) (by kernel_rfl) (by kernel_rfl) ?_ ?_ (by assumption) ?_; rotate_left 2; (focus (simp only [List.getElem?_toArray, List.getElem?_cons_zero]; rfl)); (focus (exact fun _ _ _ h => h)); first | (focus (refine Or.inl ⟨by rfl, ?_⟩; intro w hSw; (try dsimp only at hSw); (try dsimp only [Array.getD]); go_simp; (try with_reducible rfl))) | (focus (refine Or.inr ⟨by rfl, ?_⟩; rfl)) | fail "op 0"
          try simp only [Act.put, List.setIfInBounds_toArray, List.set_cons_zero, List.set_cons_succ]
          refine wpAnyH_take (i := 1) (oi := ?_) (v := ?_) ?_ (by kernel_rfl) (by kernel_rfl) (by kernel_rfl) ?_ ?_ (by assumption) ?_; rotate_left 2; (focus (simp only [List.getElem?_toArray, List.getElem?_cons_succ, List.getElem?_cons_zero]; rfl)); (focus (exact fun _ _ _ h => h)); first | (focus (refine Or.inl ⟨by rfl, ?_⟩; intro w hSw; (try dsimp only at hSw); (try dsimp only [Array.getD]); go_simp; (try with_reducible rfl))) | (focus (refine Or.inr ⟨by rfl, ?_⟩; rfl)) | fail "op 1"
          try simp only [Act.put, List.setIfInBounds_toArray, List.set_cons_zero, List.set_cons_succ]
          refine wpAnyH_ready (rs := [2]) (by kernel_rfl) (by simp) ?_
          refine AllReadyH.cons (o := ?_) ?_ (fun K hK => ?_) AllReadyH.nil; rotate_left; (focus (simp only [List.getElem?_toArray, List.getElem?_cons_succ, List.getElem?_cons_zero]; rfl))
          go_simp
          go_at_call 31
          refine (Hc3.out _ (G3.out.tr hHeld)).mono ?_
          rintro e w4 ⟨rfl, rfl⟩
          refine hK.out _ _ hHeld (fun hHeld => ?_)
          clear hK K
          try simp only [Act.put, List.setIfInBounds_toArray, List.set_cons_zero, List.set_cons_succ]
          refine wpAnyH_take (i := 3) (oi := ?_) (v := ?_) ?_ (by kernel_rfl) (by kernel_rfl) (by kernel_rfl) ?_ ?_ (by assumption) ?_; rotate_left 2; (focus (simp only [List.getElem?_toArray, List.getElem?_cons_succ, List.getElem?_cons_zero]; rfl)); (focus (exact fun _ _ _ h => h)); first | (focus (refine Or.inl ⟨by rfl, ?_⟩; intro w hSw; (try dsimp only at hSw); (try dsimp only [Array.getD]); go_simp; (try with_reducible rfl))) | (focus (refine Or.inr ⟨by rfl, ?_⟩; rfl)) | fail "op 3"
          try simp only [Act.put, List.setIfInBounds_toArray, List.set_cons_zero, List.set_cons_succ]
          refine wpAnyH_take (i := 4) (oi := ?_) (v := ?_) ?_ (by kernel_rfl) (by kernel_rfl) (by kernel_rfl) ?_ ?_ (by assumption) ?_; rotate_left 2; (focus (simp only [List.getElem?_toArray, List.getElem?_cons_succ, List.getElem?_cons_zero]; rfl)); (focus (exact fun _ _ _ h => h)); first | (focus (refine Or.inl ⟨by rfl, ?_⟩; intro w hSw; (try dsimp only at hSw); (try dsimp only [Array.getD]); go_simp; (try with_reducible rfl))) | (focus (refine Or.inr ⟨by rfl, ?_⟩; rfl)) | fail "op 4"
          try simp only [Act.put, List.setIfInBounds_toArray, List.set_cons_zero, List.set_cons_succ]
          refine wpAnyH_take (i := 5) (oi := ?_) (v := ?_) ?_ (by kernel_rfl) (by kernel_rfl) (by kernel_rfl) ?_ ?_ (by assumption) ?_; rotate_left 2; (focus (simp only [List.getElem?_toArray, List.getElem?_cons_succ, List.getElem?_cons_zero]; rfl)); (focus (exact fun _ _ _ h => h)); first | (focus (refine Or.inl ⟨by rfl, ?_⟩; intro w hSw; (try dsimp only at hSw); (try dsimp only [Array.getD]); go_simp; (try with_reducible rfl))) | (focus (refine Or.inr ⟨by rfl, ?_⟩; rfl)) | fail "op 5"
          try simp only [Act.put, List.setIfInBounds_toArray, List.set_cons_zero, List.set_cons_succ]
          refine wpAnyH_take (i := 6) (oi := ?_) (v := ?_) ?_ (by kernel_rfl) (by kernel_rfl) (by kernel_rfl) ?_ ?_ (by assumption) ?_; rotate_left 2; (focus (simp only [List.getElem?_toArray, List.getElem?_cons_succ, List.getElem?_cons_zero]; rfl)); (focus (exact fun _ _ _ h => h)); first | (focus (refine Or.inl ⟨by rfl, ?_⟩; intro w hSw; (try dsimp only at hSw); (try dsimp only [Array.getD]); go_simp; (try with_reducible rfl))) | (focus (refine Or.inr ⟨by rfl, ?_⟩; rfl)) | fail "op 6"
          try simp only [Act.put, List.setIfInBounds_toArray, List.set_cons_zero, List.set_cons_succ]
          refine wpAnyH_take (i := 7) (oi := ?_) (v := ?_) ?_ (by kernel_rfl) (by kernel_rfl) (by kernel_rfl) ?_ ?_ (by assumption) ?_; rotate_left 2; (focus (simp only [List.getElem?_toArray, List.getElem?_cons_succ, List.getElem?_cons_zero]; rfl)); (focus (exact fun _ _ _ h => h)); first | (focus (refine Or.inl ⟨by rfl, ?_⟩; intro w hSw; (try dsimp only at hSw); have c1 := (H.out.gr (G3.out.tr hSw)).cells.2; (try dsimp only [Array.getD]); go_simp; (try with_reducible rfl))) | (focus (refine Or.inr ⟨by rfl, ?_⟩; rfl)) | fail "op 7"
          try simp only [Act.put, List.setIfInBounds_toArray, List.set_cons_zero, List.set_cons_succ]
          refine wpAnyH_take (i := 8) (oi := ?_) (v := ?_) ?_ (by kernel_rfl) (by kernel_rfl) (by kernel_rfl) ?_ ?_ (by assumption) ?_; rotate_left 2; (focus (simp only [List.getElem?_toArray, List.getElem?_cons_succ, List.getElem?_cons_zero]; rfl)); (focus (exact fun _ _ _ h => h)); first | (focus (refine Or.inl ⟨by rfl, ?_⟩; intro w hSw; (try dsimp only at hSw); have c1 := (H.out.gr (G3.out.tr hSw)).cells.2; (try dsimp only [Array.getD]); go_simp; (try with_reducible rfl))) | (focus (refine Or.inr ⟨by rfl, ?_⟩; rfl)) | fail "op 8"
          try simp only [Act.put, List.setIfInBounds_toArray, List.set_cons_zero, List.set_cons_succ]
          refine wpAnyH_take (i := 9) (oi := ?_) (v := ?_) ?_ (by kernel_rfl) (by kernel_rfl) (by kernel_rfl) ?_ ?_ (by assumption) ?_; rotate_left 2; (focus (simp only [List.getElem?_toArray, List.getElem?_cons_succ, List.getElem?_cons_zero]; rfl)); (focus (exact fun _ _ _ h => h)); first | (focus (refine Or.inl ⟨by rfl, ?_⟩; intro w hSw; (try dsimp only at hSw); have c1 := (H.out.gr (G3.out.tr hSw)).cells.2; (try dsimp only [Array.getD]); go_simp; (try with_reducible rfl))) | (focus (refine Or.inr ⟨by rfl, ?_⟩; rfl)) | fail "op 9"
          try simp only [Act.put, List.setIfInBounds_toArray, List.set_cons_zero, List.set_cons_succ]
          refine wpAnyH_take (i := 10) (oi := ?_) (v := ?_) ?_ (by kernel_rfl) (by kernel_rfl) (by kernel_rfl) ?_ ?_ (by assumption) ?_; rotate_left 2; (focus (simp only [List.getElem?_toArray, List.getElem?_cons_succ, List.getElem?_cons_zero]; rfl)); (focus (exact fun _ _ _ h => h)); first | (focus (refine Or.inl ⟨by rfl, ?_⟩; intro w hSw; (try dsimp only at hSw); (try dsimp only [Array.getD]); go_simp; (try with_reducible rfl))) | (focus (refine Or.inr ⟨by rfl, ?_⟩; rfl)) | fail "op 10"
          try simp only [Act.put, List.setIfInBounds_toArray, List.set_cons_zero, List.set_cons_succ]
          refine wpAnyH_take (i := 11) (oi := ?_) (v := ?_) ?_ (by kernel_rfl) (by kernel_rfl) (by kernel_rfl) ?_ ?_ (by assumption) ?_; rotate_left 2; (focus (simp only [List.getElem?_toArray, List.getElem?_cons_succ, List.getElem?_cons_zero]; rfl)); (focus (exact fun _ _ _ h => h)); first | (focus (refine Or.inl ⟨by rfl, ?_⟩; intro w hSw; (try dsimp only at hSw); (try dsimp only [Array.getD]); go_simp; (try with_reducible rfl))) | (focus (refine Or.inr ⟨by rfl, ?_⟩; rfl)) | fail "op 11"
          try simp only [Act.put, List.setIfInBounds_toArray, List.set_cons_zero, List.set_cons_succ]
          refine wpAnyH_done (by kernel_rfl) ?_ _
          have G5 := Lib.hid (G3.out.tr hHeld); have G35 := Lib.hid hHeld
          clear hHeld hz0
          have G15 := Lib.hid ((Hg1.out.tr G3r.out).tr G35.out)
          obtain ⟨w5, hw5⟩ : ∃ w5, wz = w5 := ⟨_, rfl⟩
          rw [hw5] at G5 G35 G15 ⊢
          go_wp2_with fail
          go_roundw
          case rel => exact ⟨n + 1, by omega, by go_num, Lib.hid (by rw [Hno.out n Hcn.out]; exact own_gr (own_gr Hrow.out G3r.out) G35.out), G15⟩
          case measure => simp [intOf]; omega
      · obtain rfl : n = 16 := by omega
        have Gw := Lib.hid (G1.out.tr Hg1.out)
        have hl16 := Hln.out 16
        obtain ⟨k16, ek16⟩ : ∃ k, (mt 16).length = k := ⟨_, rfl⟩
        rw [ek16] at hl16 Hrow Hao ⊢
        have Ek := Lib.hid ek16
        have hw16 : IntKind.i64.wrap ((L.length : Int) + (k16 : Int)) = (L.length : Int) + (k16 : Int) := wrap_id (by unfold I64; omega)
        clear ek16
        go_wp2_with fail
        refine region_start (S := fun w' => Gr wr w') (by kernel_rfl) (by exact Gr.dr Gr.rfl') (fun wz hz0 hHeld => ?_)
        simp only [List.size_toArray, List.length_cons, List.length_nil, Nat.reduceAdd]
        refine wpAnyH_take (i := 0) (oi := ?_) (v := ?_) ?_ (by kernel_rfl) (by kernel_rfl) (by kernel_rfl) ?_ ?_ (by assumption) ?_; rotate_left 2; (focus (simp only [List.getElem?_toArray, List.getElem?_cons_zero]; rfl)); (focus (exact fun _ _ _ h => h)); first | (focus (refine Or.inl ⟨by rfl, ?_⟩; intro w hSw; (try dsimp only at hSw); (try dsimp only [Array.getD]); go_simp; (try with_reducible rfl))) | (focus (refine Or.inr ⟨by rfl, ?_⟩; rfl)) | fail "op 0"
        try simp only [Act.put, List.setIfInBounds_toArray, List.set_cons_zero, List.set_cons_succ]
        refine wpAnyH_take (i := 1) (oi := ?_) (v := ?_) ?_ (by kernel_rfl) (by kernel_rfl) (by kernel_rfl) ?_ ?_ (by assumption) ?_; rotate_left 2; (focus (simp only [List.getElem?_toArray, List.getElem?_cons_succ, List.getElem?_cons_zero]; rfl)); (focus (exact fun _ _ _ h => h)); first | (focus (refine Or.inl ⟨by rfl, ?_⟩; intro w hSw; (try dsimp only at hSw); (try dsimp only [Array.getD]); go_simp; (try with_reducible rfl))) | (focus (refine Or.inr ⟨by rfl, ?_⟩; rfl)) | fail "op 1"
        try simp only [Act.put, List.setIfInBounds_toArray, List.set_cons_zero, List.set_cons_succ]
        refine wpAnyH_take (i := 2) (oi := ?_) (v := ?_) ?_ (by kernel_rfl) (by kernel_rfl) (by kernel_rfl) ?_ ?_ (by assumption) ?_; rotate_left 2; (focus (simp only [List.getElem?_toArray, List.getElem?_cons_succ, List.getElem?_cons_zero]; rfl)); (focus (exact fun _ _ _ h => h)); first | (focus (refine Or.inl ⟨by rfl, ?_⟩; intro w hSw; (try dsimp only at hSw); (try dsimp only [Array.getD]); go_simp; (try with_reducible rfl))) | (focus (refine Or.inr ⟨by rfl, ?_⟩; rfl)) | fail "op 2"
        try simp only [Act.put, List.setIfInBounds_toArray, List.set_cons_zero, List.set_cons_succ]
        refine wpAnyH_take (i := 3) (oi := ?_) (v := ?_) ?_ (by kernel_rfl) (by kernel_rfl) (by kernel_rfl) ?_ ?_ (by assumption) ?_; rotate_left 2; (focus (simp only [List.getElem?_toArray, List.getElem?_cons_succ, List.getElem?_cons_zero]; rfl)); (focus (exact fun _ _ _ h => h)); first | (focus (refine Or.inl ⟨by rfl, ?_⟩; intro w hSw; (try dsimp only at hSw); obtain ⟨c0, c1⟩ := (H.out.gr (Gw.out.tr hSw)).cells; (try dsimp only [Array.getD]); go_simp; (try with_reducible rfl))) | (focus (refine Or.inr ⟨by rfl, ?_⟩; rfl)) | fail "op 3"
        try simp only [Act.put, List.setIfInBounds_toArray, List.set_cons_zero, List.set_cons_succ]
        refine wpAnyH_take (i := 4) (oi := ?_) (v := ?_) ?_ (by kernel_rfl) (by kernel_rfl) (by kernel_rfl) ?_ ?_ (by assumption) ?_; rotate_left 2; (focus (simp only [List.getElem?_toArray, List.getElem?_cons_succ, List.getElem?_cons_zero]; rfl)); (focus (exact fun _ _ _ h => h)); first | (focus (refine Or.inl ⟨by rfl, ?_⟩; intro w hSw; (try dsimp only at hSw); refine (exec_len_map (.tmp 45) 60 (by rfl) mb (by rfl) L.length (H.out.gr (Gw.out.tr hSw)).map.len).trans ?_; with_reducible rfl)) | (focus (refine Or.inr ⟨by rfl, ?_⟩; rfl)) | fail "op 4"
        try simp only [Act.put, List.setIfInBounds_toArray, List.set_cons_zero, List.set_cons_succ]
        refine wpAnyH_take (i := 5) (oi := ?_) (v := ?_) ?_ (by kernel_rfl) (by kernel_rfl) (by kernel_rfl) ?_ ?_ (by assumption) ?_; rotate_left 2; (focus (simp only [List.getElem?_toArray, List.getElem?_cons_succ, List.getElem?_cons_zero]; rfl)); (focus (exact fun _ _ _ h => h)); first | (focus (refine Or.inl ⟨by rfl, ?_⟩; intro w hSw; (try dsimp only at hSw); (try dsimp only [Array.getD]); go_simp; (try with_reducible rfl))) | (focus (refine Or.inr ⟨by rfl, ?_⟩; rfl)) | fail "op 5"
        try simp only [Act.put, List.setIfInBounds_toArray, List.set_cons_zero, List.set_cons_succ]
        refine wpAnyH_take (i := 6) (oi := ?_) (v := ?_) ?_ (by kernel_rfl) (by kernel_rfl) (by kernel_rfl) ?_ ?_ (by assumption) ?_; rotate_left 2; (focus (simp only [List.getElem?_toArray, List.getElem?_cons_succ, List.getElem?_cons_zero]; rfl)); (focus (exact fun _ _ _ h => h)); first | (focus (refine Or.inl ⟨by rfl, ?_⟩; intro w hSw; (try dsimp only at hSw); (try dsimp only [Array.getD]); go_simp; (try with_reducible rfl))) | (focus (refine Or.inr ⟨by rfl, ?_⟩; rfl)) | fail "op 6"
        try simp only [Act.put, List.setIfInBounds_toArray, List.set_cons_zero, List.set_cons_succ]
        refine wpAnyH_take (i := 7) (oi := ?_) (v := ?_) ?_ (by kernel_rfl) (by kernel_rfl) (by kernel_rfl) ?_ ?_ (by assumption) ?_; rotate_left 2; (focus (simp only [List.getElem?_toArray, List.getElem?_cons_succ, List.getElem?_cons_zero]; rfl)); (focus (exact fun _ _ _ h => h)); first | (focus (refine Or.inl ⟨by rfl, ?_⟩; intro w hSw; (try dsimp only at hSw); (try dsimp only [Array.getD]); go_simp; (try with_reducible rfl))) | (focus (refine Or.inr ⟨by rfl, ?_⟩; rfl)) | fail "op 7"
        try simp only [Act.put, List.setIfInBounds_toArray, List.set_cons_zero, List.set_cons_succ]
        refine wpAnyH_take (i := 8) (oi := ?_) (v := ?_) ?_ (by kernel_rfl) (by kernel_rfl) (by kernel_rfl) ?_ ?_ (by assumption) ?_; rotate_left 2; (focus (simp only [List.getElem?_toArray, List.getElem?_cons_succ, List.getElem?_cons_zero]; rfl)); (focus (exact fun _ _ _ h => h)); first | (focus (refine Or.inl ⟨by rfl, ?_⟩; intro w hSw; (try dsimp only at hSw); (try dsimp only [Array.getD]); go_simp; (try with_reducible rfl))) | (focus (refine Or.inr ⟨by rfl, ?_⟩; rfl)) | fail "op 8"
        try simp only [Act.put, List.setIfInBounds_toArray, List.set_cons_zero, List.set_cons_succ]
        refine wpAnyH_take (i := 9) (oi := ?_) (v := ?_) ?_ (by kernel_rfl) (by kernel_rfl) (by kernel_rfl) ?_ ?_ (by assumption) ?_; rotate_left 2; (focus (simp only [List.getElem?_toArray, List.getElem?_cons_succ, List.getElem?_cons_zero]; rfl)); (focus (exact fun _ _ _ h => h)); first | (focus (refine Or.inl ⟨by rfl, ?_⟩; intro w hSw; (try dsimp only at hSw); (try dsimp only [Array.getD]); go_simp; (try with_reducible rfl))) | (focus (refine Or.inr ⟨by rfl, ?_⟩; rfl)) | fail "op 9"
        try simp only [Act.put, List.setIfInBounds_toArray, List.set_cons_zero, List.set_cons_succ]
        refine wpAnyH_take (i := 10) (oi := ?_) (v := ?_) ?_ (by kernel_rfl) (by kernel_rfl) (by kernel_rfl) ?_ ?_ (by assumption) ?_; rotate_left 2; (focus (simp only [List.getElem?_toArray, List.getElem?_cons_succ, List.getElem?_cons_zero]; rfl)); (focus (exact fun _ _ _ h => h)); first | (focus (refine Or.inl ⟨by rfl, ?_⟩; intro w hSw; (try dsimp only at hSw); (try dsimp only [Array.getD]); go_simp; (try with_reducible rfl))) | (focus (refine Or.inr ⟨by rfl, ?_⟩; rfl)) | fail "op 10"
        try simp only [Act.put, List.setIfInBounds_toArray, List.set_cons_zero, List.set_cons_succ]
        refine wpAnyH_take (i := 11) (oi := ?_) (v := ?_) ?_ (by kernel_rfl) (by kernel_rfl) (by kernel_rfl) ?_ ?_ (by assumption) ?_; rotate_left 2; (focus (simp only [List.getElem?_toArray, List.getElem?_cons_succ, List.getElem?_cons_zero]; rfl)); (focus (exact fun _ _ _ h => h)); first | (focus (refine Or.inl ⟨by rfl, ?_⟩; intro w hSw; (try dsimp only at hSw); obtain ⟨c0, c1⟩ := (H.out.gr (Gw.out.tr hSw)).cells; (try dsimp only [Array.getD]); go_simp; (try with_reducible rfl))) | (focus (refine Or.inr ⟨by rfl, ?_⟩; rfl)) | fail "op 11"
        try simp only [Act.put, List.setIfInBounds_toArray, List.set_cons_zero, List.set_cons_succ]
        refine wpAnyH_take (i := 12) (oi := ?_) (v := ?_) ?_ (by kernel_rfl) (by kernel_rfl) (by kernel_rfl) ?_ ?_ (by assumption) ?_; rotate_left 2; (focus (simp only [List.getElem?_toArray, List.getElem?_cons_succ, List.getElem?_cons_zero]; rfl)); (focus (exact fun _ _ _ h => h)); first | (focus (refine Or.inl ⟨by rfl, ?_⟩; intro w hSw; (try dsimp only at hSw); (try dsimp only [Array.getD]); go_simp; (try with_reducible rfl))) | (focus (refine Or.inr ⟨by rfl, ?_⟩; rfl)) | fail "op 12"
        try simp only [Act.put, List.setIfInBounds_toArray, List.set_cons_zero, List.set_cons_succ]
        refine wpAnyH_done (by kernel_rfl) ?_ _
        have G5 := Lib.hid (Gw.out.tr hHeld); have G35 := Lib.hid hHeld
        clear hHeld hz0 hw16
        by_cases hfit : m < (L.length : Int) + (k16 : Int)
        · have Hno := Lib.hid (show ¬ addOk m L x ns from fun z => by have := Hao.out.1 z; omega)
          go_wp2_with fail
          go_ret
          have h5 := H.out.gr G5.out
          exact ⟨(by first | rfl | exact ret_b rfl (decide_eq_false Hno.out).symm), (by first | exact h5 | (rw [if_neg Hno.out]; exact h5)), .of G5.out⟩
        · have Hok2 := Lib.hid (Hao.out.2 (by omega))
          have Hrow5 := Lib.hid (own_gr Hrow.out G35.out)
          go_wp2_with fail
          obtain ⟨wo, rfl⟩ : ∃ wo : World, wo = wr := ⟨_, rfl⟩
          clear Hrow hn hlt
          go_loopw [57] (fun iv wr => ∃ i : Nat, i ≤ k16 ∧ iv = .int .i64 i ∧ Hid (HsAt wr mb (L ++ (mt 16).take i)) ∧ Hid (Bt (fun k => mb = some k) w wr) ∧ Hid (wr.ownsRow N0 66 7 (.slice ua k16 uc) k16 (encH (mt 16)))) (fun iv _ => k16 - (intOf iv).toNat)
          case atStart => exact ⟨0, Nat.zero_le _, rfl, Lib.hid (by rw [List.take_zero, List.append_nil]; exact H.out.map.gr G5.out), Lib.hid (.of G5.out), Hrow5⟩
          case round =>
            obtain ⟨i, hi, rfl, Hmi, Hbi, Hri⟩ := hrel
            by_cases hlt : i < k16
            · have hlt' : (i : Int) < k16 := by omega
              have hil : i < (mt 16).length := by rw [Ek.out]; exact hlt
              have hrr : rdRow wr 7 (.slice ua k16 uc) (mt 16).length (encH (mt 16)) := by rw [Ek.out]; exact rdRow_of_own Hri.out
              obtain ⟨bg, og, _, e1, _, hrg⟩ := rd_range (fun y : Hk => hkC y) 7 (fun _ => rfl) hrr (by omega)
              replace e1 := (Value.slice.inj e1).1
              subst e1
              have Hrg := Lib.hid (hrg i hil)
              obtain ⟨y, ey⟩ : ∃ y, (mt 16)[i] = y := ⟨_, rfl⟩
              have hym : y ∈ mt 16 := by rw [← ey]; exact List.getElem_mem hil
              have hyt : y ∉ (mt 16).take i := fun z => by
                have h1 := HND.out
                rw [← List.take_append_drop i (mt 16), List.nodup_append] at h1
                refine h1.2.2 y z y ?_ rfl
                rw [← ey, List.drop_eq_getElem_cons hil]
                exact List.mem_cons_self ..
              obtain ⟨y1, y2, y3, y4, _⟩ := HM.out y hym
              have hyk : HkI y := by have := Hhk.out y.2 (by unfold I64; omega); rw [← y2] at this; exact this
              have Hts := Lib.hid (show (mt 16).take (i + 1) = (mt 16).take i ++ [y] by rw [List.take_succ_eq_append_getElem hil, ey])
              have Hky := Lib.hid hyk
              have Hny := Lib.hid (show y ∉ L ++ (mt 16).take i from fun z => (List.mem_append.1 z).elim y1 hyt)
              rw [ey] at Hrg
              obtain ⟨b, rfl⟩ : ∃ b, mb = some b := by
                cases mb with
                | none => have := hmb rfl; omega
                | some b => exact ⟨b, rfl⟩
              clear hrr hrg ey hym hyt y1 y2 y3 y4 hyk hil
              go_upto_region 16 with (first | (refine wpList_load_mid rfl 66 (.tmp 59) rfl bg (og + i * 7) rfl (hkC y) _ Hrg.out Try.underlying66 rfl info_hk ?_))
              obtain ⟨w3, e3, hg3, b3, s3⟩ := al_out wr (.cells #[.string y.1.s, .int .i64 y.1.t, .int .i64 y.1.v, .int .i64 y.1.c, .int .i64 y.1.st, .int .i64 y.1.q, .int .i64 y.2] 66)
              rw [e3]
              have hblt := H.out.map.lt b rfl
              have hwz := Hbi.out.size
              have P3 := Lib.hid ((hg3.block p (Nat.lt_of_lt_of_le (blk_lt H.out.blk) hwz)).trans ((Hbi.out.block p (blk_lt H.out.blk) (fun z => H.out.ne z)).trans H.out.blk))
              have Hpb := Lib.hid (show ¬ p = b from fun z => H.out.ne (by rw [z]))
              have Hab := Lib.hid (show ¬ wr.heap.size = b from fun z => by omega)
              have Hm3 := Lib.hid (Hmi.out.gr hg3)
              have HB3 := Lib.hid (Hbi.out.tr (.of hg3))
              have Hr3 := Lib.hid (own_gr Hri.out hg3)
              have Hrb := Lib.hid (show ∀ k, (Value.slice (some (⟨bg, og, none⟩ : Addr)) k16 uc).ownBlock = some k → ¬ k = b from fun k hk z => by have := (Hri.out.lt k hk).1; have := HN0.out; omega)
              obtain ⟨A11, eA⟩ : ∃ A, wr.heap.size = A := ⟨_, rfl⟩
              rw [eA] at b3 Hab ⊢
              have B11 := Lib.hid b3
              clear e3 hg3 b3 s3 hblt hwz eA Hmi Hbi Hri Hrg
              refine region_start (S := fun w' => Bt (fun k => k = b) w3 w') (by kernel_rfl) (by exact Bt.of (Gr.dr Gr.rfl')) (fun wz hz0 hHeld => ?_)
              simp only [List.size_toArray, List.length_cons, List.length_nil, Nat.reduceAdd]
              refine wpAnyH_take (i := 0) (oi := ?_) (v := ?_) ?_ (by kernel_rfl) (by kernel_rfl) (by kernel_rfl) ?_ ?_ (by assumption) ?_; rotate_left 2; (focus (simp only [List.getElem?_toArray, List.getElem?_cons_zero]; rfl)); (focus (exact fun _ _ _ h => h)); first | (focus (refine Or.inl ⟨by rfl, ?_⟩; intro w hSw; (try dsimp only at hSw); (try dsimp only [Array.getD]); go_simp; (try with_reducible rfl))) | (focus (refine Or.inr ⟨by rfl, ?_⟩; rfl)) | fail "op 0"
              try simp only [Act.put, List.setIfInBounds_toArray, List.set_cons_zero, List.set_cons_succ]
              refine wpAnyH_take (i := 1) (oi := ?_) (v := ?_) ?_ (by kernel_rfl) (by kernel_rfl) (by kernel_rfl) ?_ ?_ (by assumption) ?_; rotate_left 2; (focus (simp only [List.getElem?_toArray, List.getElem?_cons_succ, List.getElem?_cons_zero]; rfl)); (focus (exact fun _ _ _ h => h)); first | (focus (refine Or.inl ⟨by rfl, ?_⟩; intro w hSw; (try dsimp only at hSw); (try dsimp only [Array.getD]); go_simp; (try with_reducible rfl))) | (focus (refine Or.inr ⟨by rfl, ?_⟩; rfl)) | fail "op 1"
              try simp only [Act.put, List.setIfInBounds_toArray, List.set_cons_zero, List.set_cons_succ]
              refine wpAnyH_take (i := 2) (oi := ?_) (v := ?_) ?_ (by kernel_rfl) (by kernel_rfl) (by kernel_rfl) ?_ ?_ (by assumption) ?_; rotate_left 2; (focus (simp only [List.getElem?_toArray, List.getElem?_cons_succ, List.getElem?_cons_zero]; rfl)); (focus (exact fun _ _ _ h => h)); first | (focus (refine Or.inl ⟨by rfl, ?_⟩; intro w hSw; (try dsimp only at hSw); (try dsimp only [Array.getD]); go_simp; (try with_reducible rfl))) | (focus (refine Or.inr ⟨by rfl, ?_⟩; rfl)) | fail "op 2"
              try simp only [Act.put, List.setIfInBounds_toArray, List.set_cons_zero, List.set_cons_succ]
              refine wpAnyH_take (i := 3) (oi := ?_) (v := ?_) ?_ (by kernel_rfl) (by kernel_rfl) (by kernel_rfl) ?_ ?_ (by assumption) ?_; rotate_left 2; (focus (simp only [List.getElem?_toArray, List.getElem?_cons_succ, List.getElem?_cons_zero]; rfl)); (focus (exact fun _ _ _ h => h)); first | (focus (refine Or.inl ⟨by rfl, ?_⟩; intro w hSw; (try dsimp only at hSw); have c1 := (cell_of_row w p 1 _ _ _ ((hSw.block p (blk_lt P3.out) Hpb.out).trans P3.out)).trans rfl; (try dsimp only [Array.getD]); go_simp; (try with_reducible rfl))) | (focus (refine Or.inr ⟨by rfl, ?_⟩; rfl)) | fail "op 3"
              try simp only [Act.put, List.setIfInBounds_toArray, List.set_cons_zero, List.set_cons_succ]
              refine wpAnyH_take (i := 4) (oi := ?_) (v := ?_) ?_ (by kernel_rfl) (by kernel_rfl) (by kernel_rfl) ?_ ?_ (by assumption) ?_; rotate_left 2; (focus (simp only [List.getElem?_toArray, List.getElem?_cons_succ, List.getElem?_cons_zero]; rfl)); (focus (exact fun _ _ _ h => h)); first | (focus (refine Or.inl ⟨by rfl, ?_⟩; intro w hSw; (try dsimp only at hSw); refine (exec_load_row 66 (.tmp 11) (by rfl) A11 (by rfl) _ (hkC y).toArray (0, 0) _ ((hSw.block A11 (blk_lt B11.out) Hab.out).trans B11.out) Try.underlying66 rfl info_hk).trans ?_; with_reducible rfl)) | (focus (refine Or.inr ⟨by rfl, ?_⟩; rfl)) | fail "op 4"
              try simp only [Act.put, List.setIfInBounds_toArray, List.set_cons_zero, List.set_cons_succ]
              refine wpAnyH_ready (rs := [5]) (by kernel_rfl) (by simp) ?_
              refine AllReadyH.cons (o := ?_) ?_ (fun K hK => ?_) AllReadyH.nil; rotate_left; (focus (simp only [List.getElem?_toArray, List.getElem?_cons_succ, List.getElem?_cons_zero]; rfl))
              rw [if_pos (by rfl)]
              obtain ⟨w9, hrun9, hm9, hg9⟩ := (Hm3.out.gr hz0).store (by rw [List.length_append, List.length_take]; unfold maxLen; omega) Hky.out Hny.out
              refine wp_mapUpdate_run (.tmp 64) (.tmp 65) (.const (.bool true)) _ rfl _ _ _ rfl rfl rfl hrun9 ?_
              refine hK.out _ _ ((Bt.of hz0).tr (Bt.row hg9 rfl)) (fun hHeld => ?_)
              clear hK K
              try simp only [Act.put, List.setIfInBounds_toArray, List.set_cons_zero, List.set_cons_succ]
              refine wpAnyH_done (by kernel_rfl) ?_ _
              have HB9 := Lib.hid ((HB3.out.tr (.of hz0)).tr (Bt.row hg9 rfl))
              have Hm9 := Lib.hid hm9
              have Hr9 := Lib.hid (own_bt (own_gr Hr3.out hz0) (Bt.row (X := fun k => k = b) hg9 rfl) Hrb.out)
              clear hHeld hm9 hg9 hrun9
              go_wp2_with fail
              go_roundw
              case rel => exact ⟨i + 1, by omega, by go_num, Lib.hid (by rw [Hts.out, ← List.append_assoc]; exact Hm9.out), HB9, Hr9⟩
              case measure => simp [intOf]; omega
            · obtain rfl : i = k16 := by omega
              have Ht := Lib.hid (show (mt 16).take i = mt 16 by rw [← Ek.out, List.take_length])
              go_wp2_with fail
              go_ret
              have hmi := Hmi.out
              rw [Ht.out] at hmi
              have h5 := H.out.turn hmi Hbi.out
              exact ⟨(by first | rfl | exact ret_b rfl (decide_eq_true Hok2.out).symm), (by first | exact h5 | (rw [if_pos Hok2.out]; exact h5)), Hbi.out⟩
end Go.Proofs.Ytijgbfhjimlklaa

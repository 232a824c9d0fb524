/- Hints: Ack. -/
import Derived.Test.YtijgbfhjimlklaaHnF
namespace Go.Proofs.Ytijgbfhjimlklaa
open Go.RowKit Go.Maps

def ackL (L : List Hk) (node : Int) (ps : List Pt) : List Hk := L.filter fun x => !(decide (x.2 = node) && decide (x.1 ∈ ps))
theorem ackL_nil (L : List Hk) (node : Int) : ackL L node [] = L := List.filter_eq_self.2 (fun x _ => by simp)
theorem ackL_snoc (L : List Hk) (node : Int) (ps : List Pt) (p : Pt) : ackL L node (ps ++ [p]) = delH (ackL L node ps) (p, node) := by
  unfold ackL delH
  rw [List.filter_filter]
  refine List.filter_congr fun x _ => ?_
  obtain ⟨q, n⟩ := x
  by_cases h1 : n = node <;> by_cases h2 : q ∈ ps <;> by_cases h3 : q = p <;> simp [h1, h2, h3]
theorem ackL_nodup {L : List Hk} (h : L.Nodup) (node : Int) (ps : List Pt) : (ackL L node ps).Nodup := List.Pairwise.filter _ h
theorem ackL_le (L : List Hk) (node : Int) (ps : List Pt) : (ackL L node ps).length ≤ L.length := List.length_filter_le _ _
theorem HsAt.none_nil {w : World} {L : List Hk} (h : HsAt w none L) : L = [] := by
  rcases h.2.2 with ⟨_, e⟩ | ⟨b, D, e, _⟩
  · exact e
  · cases e
def PtW (p : Pt) : Prop := p.s.size ≤ maxLen ∧ PtI p
def AckPost (w : World) (p : Nat) (mb : Option Nat) (m : Int) (L : List Hk) (node : Int) (ps : List Pt) (e : Ending) (w' : World) : Prop :=
  e = .returned (.int .i64 ((L.length : Int) - (ackL L node ps).length)) ∧ HAt w' p mb m (ackL L node ps) ∧ Bt (fun k => mb = some k) w w'
set_option maxRecDepth 100000 in
set_option maxHeartbeats 4000000 in
theorem ack_calls (w : World) (p : Nat) (mb : Option Nat) (m : Int) (L : List Hk) (h : HAt w p mb m L) (hL : L.length ≤ 600) (node : Int) (hnode : I64 node) (v : Value) (ps : List Pt) (hps : rdRow w 6 v ps.length (encP ps)) (hpl : ps.length ≤ 1000000) (hpw : ∀ x ∈ ps, PtW x) (hv : ∀ a n c, v = .slice (some a) n c → mb ≠ some a.block) :
    Calls Try.prog 16 #[.pointer (some ⟨p, 0, none⟩), .int .i64 node, v] w (AckPost w p mb m L node ps) := by
  unfold AckPost
  have H := Lib.hid h
  obtain ⟨va, vc, rfl⟩ : ∃ a c, v = .slice a ps.length c := by obtain ⟨_, a, c, e, _⟩ := hps; exact ⟨a, c, e⟩
  have Hps := Lib.hid hps; have Hpw := Lib.hid hpw; have Hva := Lib.hid (fun a (e : va = some a) => hv a ps.length vc (by rw [e]))
  have HS := Lib.hid (fun i (hi : i < ps.length) => show ackL L node (ps.take (i + 1)) = delH (ackL L node (ps.take i)) (ps[i], node) by rw [List.take_succ_eq_append_getElem hi, ackL_snoc])
  have HZ := Lib.hid (show ackL L node (ps.take 0) = L from ackL_nil L node)
  have HE := Lib.hid (show ackL L node (ps.take ps.length) = ackL L node ps by rw [List.take_length])
  have HN := Lib.hid (fun i => ackL_nodup h.map.1 node (ps.take i)); have HLe := Lib.hid (fun i => ackL_le L node (ps.take i))
  obtain ⟨r, hr⟩ : ∃ r, ackL L node ps = r := ⟨_, rfl⟩
  rw [hr] at HE ⊢
  clear hr
  obtain ⟨F, hF⟩ : ∃ F : Nat → List Hk, F = fun i => ackL L node (ps.take i) := ⟨_, rfl⟩
  replace HS := Lib.hid (show ∀ i (hi : i < ps.length), F (i + 1) = delH (F i) (ps[i], node) by rw [hF]; exact HS.out)
  replace HZ := Lib.hid (show F 0 = L by rw [hF]; exact HZ.out)
  replace HE := Lib.hid (show F ps.length = r by rw [hF]; exact HE.out)
  replace HN := Lib.hid (show ∀ i, (F i).Nodup by rw [hF]; exact HN.out)
  replace HLe := Lib.hid (show ∀ i, (F i).length ≤ L.length by rw [hF]; exact HLe.out)
  clear hF h hps hpw hv
  go_enter Try.func16, Try.ntmps16
  go_wp2_with fail
  go_loopw [7, 13] (fun cv iv wr => ∃ i : Nat, i ≤ ps.length ∧ iv = .int .i64 i ∧ cv = .int .i64 ((L.length : Int) - (F i).length) ∧ Hid (HsAt wr mb (F i)) ∧ Hid (Bt (fun k => mb = some k) w wr)) (fun _ iv _ => ps.length - (intOf iv).toNat)
  case atStart => exact ⟨0, Nat.zero_le _, rfl, by rw [HZ.out]; congr 1; omega, Lib.hid (by rw [HZ.out]; exact H.out.map), Lib.hid Bt.rfl'⟩
  case round =>
    obtain ⟨i, hi, rfl, rfl, Hmi, Hbi⟩ := hrel
    have hle := HLe.out i
    by_cases hlt : i < ps.length
    · have hlt' : (i : Int) < ps.length := by omega
      obtain ⟨bg, og, _, e1, _, hrg⟩ := rd_range ptC 6 (fun _ => rfl) Hps.out (by omega)
      replace e1 := (Value.slice.inj e1).1
      subst e1
      have hgb := Hva.out _ rfl
      have hst := HS.out i hlt
      have hyw := Hpw.out _ (List.getElem_mem hlt)
      obtain ⟨y, ey⟩ : ∃ y, ps[i] = y := ⟨_, rfl⟩
      have hrgi := hrg i hlt
      rw [ey] at hrgi hst hyw
      have Hrg := Lib.hid (show wr.rangeAt bg (og + i * 6) (ptC y) from fun j u hu => Hbi.out.cell (fun z => hgb z) (hrgi j u hu))
      have Hst := Lib.hid hst
      have Hki := Lib.hid (show HkI (y, node) from ⟨hyw.1, hyw.2, hnode⟩)
      clear hrg hrgi hst hyw ey hgb
      go_upto_region 6 with (first | (refine wpList_load_mid rfl 31 (.tmp 15) rfl bg (og + i * 6) rfl (ptC y) _ Hrg.out Try.underlying31 rfl info_pt ?_) | (refine wpList_load_rowg (by rfl) 31 (.tmp 9) rfl wr.heap.size rfl _ (ptC y).toArray (0, 0) _ (heap_alloc_new wr (.cells (ptC y).toArray 31)) Try.underlying31 rfl info_pt ?_))
      obtain ⟨w3, e3, hg3, b3, s3⟩ := al_out wr (.cells #[.string y.s, .int .i64 y.t, .int .i64 y.v, .int .i64 y.c, .int .i64 y.st, .int .i64 y.q] 31)
      rw [e3, ← s3]
      obtain ⟨w4, e4, hg4, b4, s4⟩ := al_out w3 (.cells #[.string y.s, .int .i64 y.t, .int .i64 y.v, .int .i64 y.c, .int .i64 y.st, .int .i64 y.q, .int .i64 node] 66)
      rw [e4]
      have hwz := Hbi.out.size
      have P4 := Lib.hid (((hg3.tr hg4).block p (Nat.lt_of_lt_of_le (blk_lt H.out.blk) hwz)).trans ((Hbi.out.block p (blk_lt H.out.blk) (fun z => H.out.ne z)).trans H.out.blk))
      have Hm4 := Lib.hid (Hmi.out.gr (hg3.tr hg4))
      have HB4 := Lib.hid (Hbi.out.tr (.of (hg3.tr hg4)))
      obtain ⟨A10, eA⟩ : ∃ A, w3.heap.size = A := ⟨_, rfl⟩
      rw [eA] at b4 ⊢
      have B10 := Lib.hid b4
      have HA10 := Lib.hid (show ∀ k, mb = some k → ¬ A10 = k from fun k hk z => by have := H.out.map.lt k hk; omega)
      clear e3 e4 hg3 hg4 b3 b4 s3 s4 hwz eA Hmi Hbi Hrg
      by_cases hin : (y, node) ∈ F i
      · have Hl := Lib.hid (decide_eq_true hin)
        have hdl := delH_len (HN.out i) (y, node)
        rw [if_pos hin] at hdl
        obtain ⟨b, hb⟩ : ∃ b, mb = some b := by
          cases mb with
          | none => have := Hm4.out.none_nil; rw [this] at hin; cases hin
          | some b => exact ⟨b, rfl⟩
        subst hb
        have HD := Lib.hid (show (F (i + 1)).length + 1 = (F i).length by rw [Hst.out]; exact hdl)
        have Hpb := Lib.hid (show ¬ p = b from fun z => H.out.ne (by rw [z]))
        have Hab := Lib.hid (HA10.out b rfl)
        clear hin hdl
        go_wp2_with fail
        refine region_start (S := fun w' => Gr w4 w') (by kernel_rfl) (by exact Gr.dr Gr.rfl') (fun wz hz0 hHeld => ?_)
        simp only [List.size_toArray, List.length_cons, List.length_nil, Nat.reduceAdd]
        refine wpAnyH_take (i := 0) (oi := ?_) (v := ?_) ?_ (by kernel_rfl) (by kernel_rfl) (by kernel_rfl) ?_ ?_ (by assumption) ?_; rotate_left 2; (focus (simp only [List.getElem?_toArray, List.getElem?_cons_zero]; rfl)); (focus (exact fun _ _ _ h => h)); first | (focus (refine Or.inl ⟨by rfl, ?_⟩; intro w hSw; (try dsimp only at hSw); (try dsimp only [Array.getD]); go_simp; (try with_reducible rfl))) | (focus (refine Or.inr ⟨by rfl, ?_⟩; rfl)) | fail "op 0"
        try simp only [Act.put, List.setIfInBounds_toArray, List.set_cons_zero, List.set_cons_succ]
        refine wpAnyH_take (i := 1) (oi := ?_) (v := ?_) ?_ (by kernel_rfl) (by kernel_rfl) (by kernel_rfl) ?_ ?_ (by assumption) ?_; rotate_left 2; (focus (simp only [List.getElem?_toArray, List.getElem?_cons_succ, List.getElem?_cons_zero]; rfl)); (focus (exact fun _ _ _ h => h)); first | (focus (refine Or.inl ⟨by rfl, ?_⟩; intro w hSw; (try dsimp only at hSw); (try dsimp only [Array.getD]); go_simp; (try with_reducible rfl))) | (focus (refine Or.inr ⟨by rfl, ?_⟩; rfl)) | fail "op 1"
        try simp only [Act.put, List.setIfInBounds_toArray, List.set_cons_zero, List.set_cons_succ]
        refine wpAnyH_take (i := 2) (oi := ?_) (v := ?_) ?_ (by kernel_rfl) (by kernel_rfl) (by kernel_rfl) ?_ ?_ (by assumption) ?_; rotate_left 2; (focus (simp only [List.getElem?_toArray, List.getElem?_cons_succ, List.getElem?_cons_zero]; rfl)); (focus (exact fun _ _ _ h => h)); first | (focus (refine Or.inl ⟨by rfl, ?_⟩; intro w hSw; (try dsimp only at hSw); (try dsimp only [Array.getD]); go_simp; (try with_reducible rfl))) | (focus (refine Or.inr ⟨by rfl, ?_⟩; rfl)) | fail "op 2"
        try simp only [Act.put, List.setIfInBounds_toArray, List.set_cons_zero, List.set_cons_succ]
        refine wpAnyH_take (i := 3) (oi := ?_) (v := ?_) ?_ (by kernel_rfl) (by kernel_rfl) (by kernel_rfl) ?_ ?_ (by assumption) ?_; rotate_left 2; (focus (simp only [List.getElem?_toArray, List.getElem?_cons_succ, List.getElem?_cons_zero]; rfl)); (focus (exact fun _ _ _ h => h)); first | (focus (refine Or.inl ⟨by rfl, ?_⟩; intro w hSw; (try dsimp only at hSw); (try dsimp only [Array.getD]); go_simp; (try with_reducible rfl))) | (focus (refine Or.inr ⟨by rfl, ?_⟩; rfl)) | fail "op 3"
        try simp only [Act.put, List.setIfInBounds_toArray, List.set_cons_zero, List.set_cons_succ]
        refine wpAnyH_take (i := 4) (oi := ?_) (v := ?_) ?_ (by kernel_rfl) (by kernel_rfl) (by kernel_rfl) ?_ ?_ (by assumption) ?_; rotate_left 2; (focus (simp only [List.getElem?_toArray, List.getElem?_cons_succ, List.getElem?_cons_zero]; rfl)); (focus (exact fun _ _ _ h => h)); first | (focus (refine Or.inl ⟨by rfl, ?_⟩; intro w hSw; (try dsimp only at hSw); (try dsimp only [Array.getD]); go_simp; (try with_reducible rfl))) | (focus (refine Or.inr ⟨by rfl, ?_⟩; rfl)) | fail "op 4"
        try simp only [Act.put, List.setIfInBounds_toArray, List.set_cons_zero, List.set_cons_succ]
        refine wpAnyH_take (i := 5) (oi := ?_) (v := ?_) ?_ (by kernel_rfl) (by kernel_rfl) (by kernel_rfl) ?_ ?_ (by assumption) ?_; rotate_left 2; (focus (simp only [List.getElem?_toArray, List.getElem?_cons_succ, List.getElem?_cons_zero]; rfl)); (focus (exact fun _ _ _ h => h)); first | (focus (refine Or.inl ⟨by rfl, ?_⟩; intro w hSw; (try dsimp only at hSw); (try dsimp only [Array.getD]); go_simp; (try with_reducible rfl))) | (focus (refine Or.inr ⟨by rfl, ?_⟩; rfl)) | fail "op 5"
        try simp only [Act.put, List.setIfInBounds_toArray, List.set_cons_zero, List.set_cons_succ]
        refine wpAnyH_take (i := 6) (oi := ?_) (v := ?_) ?_ (by kernel_rfl) (by kernel_rfl) (by kernel_rfl) ?_ ?_ (by assumption) ?_; rotate_left 2; (focus (simp only [List.getElem?_toArray, List.getElem?_cons_succ, List.getElem?_cons_zero]; rfl)); (focus (exact fun _ _ _ h => h)); first | (focus (refine Or.inl ⟨by rfl, ?_⟩; intro w hSw; (try dsimp only at hSw); have c1 := (cell_of_row w p 1 _ _ _ (hSw.blk P4.out)).trans rfl; (try dsimp only [Array.getD]); go_simp; (try with_reducible rfl))) | (focus (refine Or.inr ⟨by rfl, ?_⟩; rfl)) | fail "op 6"
        try simp only [Act.put, List.setIfInBounds_toArray, List.set_cons_zero, List.set_cons_succ]
        refine wpAnyH_take (i := 7) (oi := ?_) (v := ?_) ?_ (by kernel_rfl) (by kernel_rfl) (by kernel_rfl) ?_ ?_ (by assumption) ?_; rotate_left 2; (focus (simp only [List.getElem?_toArray, List.getElem?_cons_succ, List.getElem?_cons_zero]; rfl)); (focus (exact fun _ _ _ h => h)); first | (focus (refine Or.inl ⟨by rfl, ?_⟩; intro w hSw; (try dsimp only at hSw); refine (exec_load_row 66 (.tmp 10) (by rfl) A10 (by rfl) _ (hkC (y, node)).toArray (0, 0) _ (hSw.blk B10.out) Try.underlying66 rfl info_hk).trans ?_; with_reducible rfl)) | (focus (refine Or.inr ⟨by rfl, ?_⟩; rfl)) | fail "op 7"
        try simp only [Act.put, List.setIfInBounds_toArray, List.set_cons_zero, List.set_cons_succ]
        refine wpAnyH_take (i := 8) (oi := ?_) (v := ?_) ?_ (by kernel_rfl) (by kernel_rfl) (by kernel_rfl) ?_ ?_ (by assumption) ?_; rotate_left 2; (focus (simp only [List.getElem?_toArray, List.getElem?_cons_succ, List.getElem?_cons_zero]; rfl)); (focus (exact fun _ _ _ h => h)); first | (focus (refine Or.inl ⟨by rfl, ?_⟩; intro w hSw; (try dsimp only at hSw); have l1 := (Hm4.out.gr hSw).look Hki.out; rw [Hl.out] at l1; (try dsimp only [Array.getD]); go_simp; (try with_reducible rfl))) | (focus (refine Or.inr ⟨by rfl, ?_⟩; rfl)) | fail "op 8"
        try simp only [Act.put, List.setIfInBounds_toArray, List.set_cons_zero, List.set_cons_succ]
        refine wpAnyH_take (i := 9) (oi := ?_) (v := ?_) ?_ (by kernel_rfl) (by kernel_rfl) (by kernel_rfl) ?_ ?_ (by assumption) ?_; rotate_left 2; (focus (simp only [List.getElem?_toArray, List.getElem?_cons_succ, List.getElem?_cons_zero]; rfl)); (focus (exact fun _ _ _ h => h)); first | (focus (refine Or.inl ⟨by rfl, ?_⟩; intro w hSw; (try dsimp only at hSw); (try dsimp only [Array.getD]); go_simp; (try with_reducible rfl))) | (focus (refine Or.inr ⟨by rfl, ?_⟩; rfl)) | fail "op 9"
        try simp only [Act.put, List.setIfInBounds_toArray, List.set_cons_zero, List.set_cons_succ]
        refine wpAnyH_done (by kernel_rfl) ?_ _
        have G5 := Lib.hid hHeld
        clear hHeld hz0
        obtain ⟨w5, hw5⟩ : ∃ w5, wz = w5 := ⟨_, rfl⟩
        rw [hw5] at G5 ⊢
        clear hw5 wz
        have P5 := Lib.hid (G5.out.blk P4.out)
        have B5 := Lib.hid (G5.out.blk B10.out)
        go_wp2_with fail
        refine region_start (S := fun w' => Bt (fun k => k = b) w5 w') (by kernel_rfl) (by exact Bt.of (Gr.dr Gr.rfl')) (fun wz hz0 hHeld => ?_)
        simp only [List.size_toArray, List.length_cons, List.length_nil, Nat.reduceAdd]
        refine wpAnyH_take (i := 0) (oi := ?_) (v := ?_) ?_ (by kernel_rfl) (by kernel_rfl) (by kernel_rfl) ?_ ?_ (by assumption) ?_; rotate_left 2; (focus (simp only [List.getElem?_toArray, List.getElem?_cons_zero]; rfl)); (focus (exact fun _ _ _ h => h)); first | (focus (refine Or.inl ⟨by rfl, ?_⟩; intro w hSw; (try dsimp only at hSw); (try dsimp only [Array.getD]); go_simp; (try with_reducible rfl))) | (focus (refine Or.inr ⟨by rfl, ?_⟩; rfl)) | fail "op 0"
        try simp only [Act.put, List.setIfInBounds_toArray, List.set_cons_zero, List.set_cons_succ]
        refine wpAnyH_take (i := 1) (oi := ?_) (v := ?_) ?_ (by kernel_rfl) (by kernel_rfl) (by kernel_rfl) ?_ ?_ (by assumption) ?_; rotate_left 2; (focus (simp only [List.getElem?_toArray, List.getElem?_cons_succ, List.getElem?_cons_zero]; rfl)); (focus (exact fun _ _ _ h => h)); first | (focus (refine Or.inl ⟨by rfl, ?_⟩; intro w hSw; (try dsimp only at hSw); (try dsimp only [Array.getD]); go_simp; (try with_reducible rfl))) | (focus (refine Or.inr ⟨by rfl, ?_⟩; rfl)) | fail "op 1"
        try simp only [Act.put, List.setIfInBounds_toArray, List.set_cons_zero, List.set_cons_succ]
        refine wpAnyH_take (i := 2) (oi := ?_) (v := ?_) ?_ (by kernel_rfl) (by kernel_rfl) (by kernel_rfl) ?_ ?_ (by assumption) ?_; rotate_left 2; (focus (simp only [List.getElem?_toArray, List.getElem?_cons_succ, List.getElem?_cons_zero]; rfl)); (focus (exact fun _ _ _ h => h)); first | (focus (refine Or.inl ⟨by rfl, ?_⟩; intro w hSw; (try dsimp only at hSw); (try dsimp only [Array.getD]); go_simp; (try with_reducible rfl))) | (focus (refine Or.inr ⟨by rfl, ?_⟩; rfl)) | fail "op 2"
        try simp only [Act.put, List.setIfInBounds_toArray, List.set_cons_zero, List.set_cons_succ]
        refine wpAnyH_take (i := 3) (oi := ?_) (v := ?_) ?_ (by kernel_rfl) (by kernel_rfl) (by kernel_rfl) ?_ ?_ (by assumption) ?_; rotate_left 2; (focus (simp only [List.getElem?_toArray, List.getElem?_cons_succ, List.getElem?_cons_zero]; rfl)); (focus (exact fun _ _ _ h => h)); first | (focus (refine Or.inl ⟨by rfl, ?_⟩; intro w hSw; (try dsimp only at hSw); have c1 := (cell_of_row w p 1 _ _ _ ((hSw.block p (blk_lt P5.out) Hpb.out).trans P5.out)).trans rfl; (try dsimp only [Array.getD]); go_simp; (try with_reducible rfl))) | (focus (refine Or.inr ⟨by rfl, ?_⟩; rfl)) | fail "op 3"
        try simp only [Act.put, List.setIfInBounds_toArray, List.set_cons_zero, List.set_cons_succ]
        refine wpAnyH_take (i := 4) (oi := ?_) (v := ?_) ?_ (by kernel_rfl) (by kernel_rfl) (by kernel_rfl) ?_ ?_ (by assumption) ?_; rotate_left 2; (focus (simp only [List.getElem?_toArray, List.getElem?_cons_succ, List.getElem?_cons_zero]; rfl)); (focus (exact fun _ _ _ h => h)); first | (focus (refine Or.inl ⟨by rfl, ?_⟩; intro w hSw; (try dsimp only at hSw); refine (exec_load_row 66 (.tmp 10) (by rfl) A10 (by rfl) _ (hkC (y, node)).toArray (0, 0) _ ((hSw.block A10 (blk_lt B5.out) Hab.out).trans B5.out) Try.underlying66 rfl info_hk).trans ?_; with_reducible rfl)) | (focus (refine Or.inr ⟨by rfl, ?_⟩; rfl)) | fail "op 4"
        try simp only [Act.put, List.setIfInBounds_toArray, List.set_cons_zero, List.set_cons_succ]
        refine wpAnyH_ready (rs := [5]) (by kernel_rfl) (by simp) ?_
        refine AllReadyH.cons (o := ?_) ?_ (fun K hK => ?_) AllReadyH.nil; rotate_left; (focus (simp only [List.getElem?_toArray, List.getElem?_cons_succ, List.getElem?_cons_zero]; rfl))
        rw [if_pos (by rfl)]
        obtain ⟨w9, hrun9, hm9, hg9⟩ := ((Hm4.out.gr G5.out).gr hz0).drop Hki.out
        refine wp_delete_run (.tmp 33) (.tmp 34) _ _ rfl _ _ rfl rfl hrun9 ?_
        refine hK.out _ _ ((Bt.of hz0).tr (Bt.row hg9 rfl)) (fun hHeld => ?_)
        clear hK K
        try simp only [Act.put, List.setIfInBounds_toArray, List.set_cons_zero, List.set_cons_succ]
        refine wpAnyH_done (by kernel_rfl) ?_ _
        have HB9 := Lib.hid (((HB4.out.tr (.of G5.out)).tr (.of hz0)).tr (Bt.row hg9 rfl))
        have Hm9 := Lib.hid hm9
        clear hHeld hm9 hg9 hrun9 hz0
        have hw : IntKind.i64.wrap ((L.length : Int) - (F i).length + 1) = (L.length : Int) - (F i).length + 1 := wrap_id (by unfold I64; omega)
        go_wp2_with fail
        go_roundw
        case rel => exact ⟨i + 1, by omega, by go_num, by congr 1; have := HD.out; omega, Lib.hid (by rw [Hst.out]; exact Hm9.out), HB9⟩
        case measure => simp [intOf]; omega
      · have Hl := Lib.hid (decide_eq_false hin)
        have HD := Lib.hid (show F (i + 1) = F i by rw [Hst.out]; exact delH_not hin)
        clear hin
        go_wp2_with fail
        refine region_start (S := fun w' => Gr w4 w') (by kernel_rfl) (by exact Gr.dr Gr.rfl') (fun wz hz0 hHeld => ?_)
        simp only [List.size_toArray, List.length_cons, List.length_nil, Nat.reduceAdd]
        refine wpAnyH_take (i := 0) (oi := ?_) (v := ?_) ?_ (by kernel_rfl) (by kernel_rfl) (by kernel_rfl) ?_ ?_ (by assumption) ?_; rotate_left 2; (focus (simp only [List.getElem?_toArray, List.getElem?_cons_zero]; rfl)); (focus (exact fun _ _ _ h => h)); first | (focus (refine Or.inl ⟨by rfl, ?_⟩; intro w hSw; (try dsimp only at hSw); (try dsimp only [Array.getD]); go_simp; (try with_reducible rfl))) | (focus (refine Or.inr ⟨by rfl, ?_⟩; rfl)) | fail "op 0"
        try simp only [Act.put, List.setIfInBounds_toArray, List.set_cons_zero, List.set_cons_succ]
        refine wpAnyH_take (i := 1) (oi := ?_) (v := ?_) ?_ (by kernel_rfl) (by kernel_rfl) (by kernel_rfl) ?_ ?_ (by assumption) ?_; rotate_left 2; (focus (simp only [List.getElem?_toArray, List.getElem?_cons_succ, List.getElem?_cons_zero]; rfl)); (focus (exact fun _ _ _ h => h)); first | (focus (refine Or.inl ⟨by rfl, ?_⟩; intro w hSw; (try dsimp only at hSw); (try dsimp only [Array.getD]); go_simp; (try with_reducible rfl))) | (focus (refine Or.inr ⟨by rfl, ?_⟩; rfl)) | fail "op 1"
        try simp only [Act.put, List.setIfInBounds_toArray, List.set_cons_zero, List.set_cons_succ]
        refine wpAnyH_take (i := 2) (oi := ?_) (v := ?_) ?_ (by kernel_rfl) (by kernel_rfl) (by kernel_rfl) ?_ ?_ (by assumption) ?_; rotate_left 2; (focus (simp only [List.getElem?_toArray, List.getElem?_cons_succ, List.getElem?_cons_zero]; rfl)); (focus (exact fun _ _ _ h => h)); first | (focus (refine Or.inl ⟨by rfl, ?_⟩; intro w hSw; (try dsimp only at hSw); (try dsimp only [Array.getD]); go_simp; (try with_reducible rfl))) | (focus (refine Or.inr ⟨by rfl, ?_⟩; rfl)) | fail "op 2"
        try simp only [Act.put, List.setIfInBounds_toArray, List.set_cons_zero, List.set_cons_succ]
        refine wpAnyH_take (i := 3) (oi := ?_) (v := ?_) ?_ (by kernel_rfl) (by kernel_rfl) (by kernel_rfl) ?_ ?_ (by assumption) ?_; rotate_left 2; (focus (simp only [List.getElem?_toArray, List.getElem?_cons_succ, List.getElem?_cons_zero]; rfl)); (focus (exact fun _ _ _ h => h)); first | (focus (refine Or.inl ⟨by rfl, ?_⟩; intro w hSw; (try dsimp only at hSw); (try dsimp only [Array.getD]); go_simp; (try with_reducible rfl))) | (focus (refine Or.inr ⟨by rfl, ?_⟩; rfl)) | fail "op 3"
        try simp only [Act.put, List.setIfInBounds_toArray, List.set_cons_zero, List.set_cons_succ]
        refine wpAnyH_take (i := 4) (oi := ?_) (v := ?_) ?_ (by kernel_rfl) (by kernel_rfl) (by kernel_rfl) ?_ ?_ (by assumption) ?_; rotate_left 2; (focus (simp only [List.getElem?_toArray, List.getElem?_cons_succ, List.getElem?_cons_zero]; rfl)); (focus (exact fun _ _ _ h => h)); first | (focus (refine Or.inl ⟨by rfl, ?_⟩; intro w hSw; (try dsimp only at hSw); (try dsimp only [Array.getD]); go_simp; (try with_reducible rfl))) | (focus (refine Or.inr ⟨by rfl, ?_⟩; rfl)) | fail "op 4"
        try simp only [Act.put, List.setIfInBounds_toArray, List.set_cons_zero, List.set_cons_succ]
        refine wpAnyH_take (i := 5) (oi := ?_) (v := ?_) ?_ (by kernel_rfl) (by kernel_rfl) (by kernel_rfl) ?_ ?_ (by assumption) ?_; rotate_left 2; (focus (simp only [List.getElem?_toArray, List.getElem?_cons_succ, List.getElem?_cons_zero]; rfl)); (focus (exact fun _ _ _ h => h)); first | (focus (refine Or.inl ⟨by rfl, ?_⟩; intro w hSw; (try dsimp only at hSw); (try dsimp only [Array.getD]); go_simp; (try with_reducible rfl))) | (focus (refine Or.inr ⟨by rfl, ?_⟩; rfl)) | fail "op 5"
        try simp only [Act.put, List.setIfInBounds_toArray, List.set_cons_zero, List.set_cons_succ]
        refine wpAnyH_take (i := 6) (oi := ?_) (v := ?_) ?_ (by kernel_rfl) (by kernel_rfl) (by kernel_rfl) ?_ ?_ (by assumption) ?_; rotate_left 2; (focus (simp only [List.getElem?_toArray, List.getElem?_cons_succ, List.getElem?_cons_zero]; rfl)); (focus (exact fun _ _ _ h => h)); first | (focus (refine Or.inl ⟨by rfl, ?_⟩; intro w hSw; (try dsimp only at hSw); have c1 := (cell_of_row w p 1 _ _ _ (hSw.blk P4.out)).trans rfl; (try dsimp only [Array.getD]); go_simp; (try with_reducible rfl))) | (focus (refine Or.inr ⟨by rfl, ?_⟩; rfl)) | fail "op 6"
        try simp only [Act.put, List.setIfInBounds_toArray, List.set_cons_zero, List.set_cons_succ]
        refine wpAnyH_take (i := 7) (oi := ?_) (v := ?_) ?_ (by kernel_rfl) (by kernel_rfl) (by kernel_rfl) ?_ ?_ (by assumption) ?_; rotate_left 2; (focus (simp only [List.getElem?_toArray, List.getElem?_cons_succ, List.getElem?_cons_zero]; rfl)); (focus (exact fun _ _ _ h => h)); first | (focus (refine Or.inl ⟨by rfl, ?_⟩; intro w hSw; (try dsimp only at hSw); refine (exec_load_row 66 (.tmp 10) (by rfl) A10 (by rfl) _ (hkC (y, node)).toArray (0, 0) _ (hSw.blk B10.out) Try.underlying66 rfl info_hk).trans ?_; with_reducible rfl)) | (focus (refine Or.inr ⟨by rfl, ?_⟩; rfl)) | fail "op 7"
        try simp only [Act.put, List.setIfInBounds_toArray, List.set_cons_zero, List.set_cons_succ]
        refine wpAnyH_take (i := 8) (oi := ?_) (v := ?_) ?_ (by kernel_rfl) (by kernel_rfl) (by kernel_rfl) ?_ ?_ (by assumption) ?_; rotate_left 2; (focus (simp only [List.getElem?_toArray, List.getElem?_cons_succ, List.getElem?_cons_zero]; rfl)); (focus (exact fun _ _ _ h => h)); first | (focus (refine Or.inl ⟨by rfl, ?_⟩; intro w hSw; (try dsimp only at hSw); have l1 := (Hm4.out.gr hSw).look Hki.out; rw [Hl.out] at l1; (try dsimp only [Array.getD]); go_simp; (try with_reducible rfl))) | (focus (refine Or.inr ⟨by rfl, ?_⟩; rfl)) | fail "op 8"
        try simp only [Act.put, List.setIfInBounds_toArray, List.set_cons_zero, List.set_cons_succ]
        refine wpAnyH_take (i := 9) (oi := ?_) (v := ?_) ?_ (by kernel_rfl) (by kernel_rfl) (by kernel_rfl) ?_ ?_ (by assumption) ?_; rotate_left 2; (focus (simp only [List.getElem?_toArray, List.getElem?_cons_succ, List.getElem?_cons_zero]; rfl)); (focus (exact fun _ _ _ h => h)); first | (focus (refine Or.inl ⟨by rfl, ?_⟩; intro w hSw; (try dsimp only at hSw); (try dsimp only [Array.getD]); go_simp; (try with_reducible rfl))) | (focus (refine Or.inr ⟨by rfl, ?_⟩; rfl)) | fail "op 9"
        try simp only [Act.put, List.setIfInBounds_toArray, List.set_cons_zero, List.set_cons_succ]
        refine wpAnyH_done (by kernel_rfl) ?_ _
        have G5 := Lib.hid hHeld
        clear hHeld hz0
        obtain ⟨w5, hw5⟩ : ∃ w5, wz = w5 := ⟨_, rfl⟩
        rw [hw5] at G5 ⊢
        clear hw5 wz
        go_wp2_with fail
        go_roundw
        case rel => exact ⟨i + 1, by omega, by go_num, by rw [HD.out], Lib.hid (by rw [HD.out]; exact Hm4.out.gr G5.out), Lib.hid (HB4.out.tr (.of G5.out))⟩
        case measure => simp [intOf]; omega
    · obtain rfl : i = ps.length := by omega
      go_wp2_with fail
      go_ret
      have hm := Hmi.out
      rw [HE.out] at hm
      exact ⟨ret_i rfl (by rw [HE.out]), H.out.turn hm Hbi.out, Hbi.out⟩
end Go.Proofs.Ytijgbfhjimlklaa

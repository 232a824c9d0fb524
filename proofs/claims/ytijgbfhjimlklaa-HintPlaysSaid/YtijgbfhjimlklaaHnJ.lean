/- Hints: Drop. -/
import Derived.Test.YtijgbfhjimlklaaHnI
namespace Go.Proofs.Ytijgbfhjimlklaa
open Go.RowKit Go.Maps

def dropL (L : List Hk) (t : Int) : List Hk := L.filter fun x => !decide (x.1.t < t)
/-- What is there once these were met. -/
def dropM (L : List Hk) (t : Int) (d : List Hk) : List Hk := L.filter fun x => !(decide (x ∈ d) && decide (x.1.t < t))
theorem dropM_nil (L : List Hk) (t : Int) : dropM L t [] = L := List.filter_eq_self.2 (fun x _ => by simp)
theorem dropM_all {L d : List Hk} (t : Int) (h : d.Perm L) : dropM L t d = dropL L t := by
  unfold dropM dropL
  refine List.filter_congr fun x hx => ?_
  have : decide (x ∈ d) = true := decide_eq_true (h.mem_iff.2 hx)
  rw [this]; rfl
theorem dropM_yes {L d : List Hk} {t : Int} {x : Hk} (h : x.1.t < t) : dropM L t (d ++ [x]) = delH (dropM L t d) x := by
  unfold dropM delH
  rw [List.filter_filter]
  refine List.filter_congr fun y _ => ?_
  by_cases e : y = x
  · subst e; simp [h]
  · by_cases h2 : y ∈ d <;> by_cases h3 : y.1.t < t <;> simp [e, h2, h3]
theorem dropM_no {L d : List Hk} {t : Int} {x : Hk} (h : ¬ x.1.t < t) : dropM L t (d ++ [x]) = dropM L t d := by
  unfold dropM
  refine List.filter_congr fun y _ => ?_
  by_cases e : y = x
  · subst e; simp [h]
  · simp [e]
theorem dropM_nodup {L : List Hk} (h : L.Nodup) (t : Int) (d : List Hk) : (dropM L t d).Nodup := List.Pairwise.filter _ h
theorem dropM_le (L : List Hk) (t : Int) (d : List Hk) : (dropM L t d).length ≤ L.length := List.length_filter_le _ _
theorem dropM_sub {L d : List Hk} {t : Int} {x : Hk} (h : x ∈ dropM L t d) : x ∈ L := (List.mem_filter.1 h).1
def DropPost (w : World) (p b : Nat) (m : Int) (L : List Hk) (t : Int) (e : Ending) (w' : World) : Prop :=
  e = .returned (.int .i64 ((L.length : Int) - (dropL L t).length)) ∧ HAt w' p (some b) m (dropL L t) ∧ Bt (fun k => k = b) w w'
set_option maxRecDepth 100000 in
set_option maxHeartbeats 4000000 in
theorem drop_calls (w : World) (p b : Nat) (m : Int) (L : List Hk) (h : HAt w p (some b) m L) (hL : L.length ≤ 600) (t : Int) :
    Calls Try.prog 21 #[.pointer (some ⟨p, 0, none⟩), .int .i64 t] w (DropPost w p b m L t) := by
  unfold DropPost
  have H := Lib.hid h
  obtain ⟨c0, c1⟩ := h.cells
  obtain ⟨hnd, hki, ⟨e, _⟩ | ⟨b', D, e, hown, hat⟩⟩ := id h.map
  · cases e
  cases e
  have Hnd := Lib.hid hnd; have Hki := Lib.hid hki; have Hown := Lib.hid hown; have Hat := Lib.hid hat
  have HA := Lib.hid (fun (d : List Hk) (hd : d.Perm L) => dropM_all t hd); have HY := Lib.hid (fun (d : List Hk) (x : Hk) (hx : x.1.t < t) => @dropM_yes L d t x hx); have HN := Lib.hid (fun (d : List Hk) (x : Hk) (hx : ¬ x.1.t < t) => @dropM_no L d t x hx)
  have H0 := Lib.hid (dropM_nil L t); have HLe := Lib.hid (dropM_le L t); have HNd := Lib.hid (fun d => dropM_nodup hnd t d); have HSub := Lib.hid (fun d x => @dropM_sub L d t x)
  generalize dropM L t = M at *
  generalize dropL L t = r at *
  have hpb : ¬ p = b := fun z => h.ne (by rw [z])
  have Hpb := Lib.hid hpb
  clear h hnd hki hown hat c0 hpb
  go_enter Try.func21, Try.ntmps21
  go_wp2_with (first | (at_range; refine wpList_range_own _ rfl _ 60 rfl 66 4 lawK Try.underlying60 heldR b L.length D rfl Hown.out ?_; intro w1 hrg1 hg1 hs1))
  try go_frame
  have HB1 : Bt (fun k => k = b) w w1 := .of ⟨hg1.os, hg1.tape, hg1.output, hg1.size, fun k hk => hg1.block k hk (by simp)⟩
  obtain ⟨R, eR⟩ : ∃ R, w.heap.size = R := ⟨_, rfl⟩
  have ER := Lib.hid eR
  rw [eR] at hrg1 hs1 ⊢
  go_loopw [5] (fun u wr => ∃ (d : List Hk) (D' : DataW Value) (left : Lit → Bool) (cnt : Nat), wr.ranges Try.prog 66 heldR b R L.length D' left cnt ∧ (∀ kl, left kl = true → Maps.has D' kl = true) ∧ Hid (MetH L left d) ∧ Hid (SetD D' (M d)) ∧ d.length + cnt ≤ L.length ∧ u = .int .i64 ((L.length : Int) - (M d).length) ∧ Hid (Bt (fun k => k = b) w wr)) (fun _ wr => wr.rangeLeft b R)
  case atStart => exact ⟨[], D, Maps.has D, Maps.size D, hrg1, fun _ h => h, Lib.hid (.start Hki.out Hat.out), Lib.hid (by rw [H0.out]; exact Hat.out), by rw [Hat.out.size]; simp, by rw [H0.out]; congr 1; omega, Lib.hid HB1⟩
  case round =>
    obtain ⟨d, D', left, cnt, hrg, hleft, HM, HS, hld, rfl, HB⟩ := hrel
    have Hleft := Lib.hid hleft; have Hrg := Lib.hid hrg
    have hle := HLe.out d
    clear hleft HB1 hrg1 hg1 hs1
    go_wp2_with (at_next; refine wpList_next_ranges _ rfl _ rfl 66 lawK heldR (fun x : Hk => hkV x) (fun c : Value => c) (fun key kl hk => by obtain ⟨x, e, _⟩ := invH hk; exact ⟨x, e⟩) (fun v y _ => ⟨v, rfl⟩) b R L.length D' left cnt rfl hrg ?_ ?_)
    · intro hc0 hl0
      have hp := HM.out.done Hnd.out hl0
      have HE := Lib.hid (HA.out d hp)
      have hmap : HsAt wr (some b) r := by
        rw [← HE.out]
        exact ⟨HNd.out d, fun y hy => Hki.out y (HSub.out d y hy), .inr ⟨b, D', rfl, own_tight hrg.owns HS.out.size, HS.out⟩⟩
      have HMap := Lib.hid hmap
      clear hl0 hrg hp hmap
      go_wp2_with fail
      go_ret
      have hbb : Bt (fun k => some b = some k) w wr := HB.out.mono (fun k _ z => by rw [z])
      exact ⟨ret_i rfl (by rw [HE.out]), H.out.turn HMap.out hbb, HB.out⟩
    · intro xp xn c kl y ps w2 cnt2 hkey hlx hy hat hrg2 hlt hg2 hs2 hen
      obtain ⟨x1, ex, hi, ekl⟩ := invH hkey
      obtain ⟨x, hx⟩ : ∃ x : Hk, x = (xp, xn) := ⟨_, rfl⟩
      obtain rfl : x = x1 := by rw [hx]; exact hkV_inj ex
      have e1 : xp = x.1 := by rw [hx]
      have e2 : xn = x.2 := by rw [hx]
      subst e1 e2
      clear hx
      subst ekl
      have hxM := mem_of_left HS.out hi (Hleft.out _ hlx)
      have hxL := HSub.out d x hxM
      have hstep := HM.out.step Hki.out hxL hlx
      have hleft2 : ∀ kl, (left kl && !kl.sameKey (keyH x)) = true → Maps.has D' kl = true := fun kl hk => Hleft.out kl (by simp at hk; exact hk.1)
      have HB2 : Bt (fun k => k = b) w w2 := HB.out.new hg2 (by have := ER.out; omega)
      have B2 := Lib.hid HB2; have HR2 := Lib.hid hrg2; have HSt := Lib.hid hstep; have Hl2 := Lib.hid hleft2; have HI := Lib.hid hi; have HXM := Lib.hid hxM
      clear HB2 hrg2 hstep hleft2 HM hxL hat hlx hkey hy Hleft hg2 ex hrg hi hs2 hxM
      by_cases hxt : x.1.t < t
      · have HX := Lib.hid (HY.out d x hxt)
        have hdl := delH_len (HNd.out d) x
        rw [if_pos HXM.out, ← HX.out] at hdl
        go_wp2_with fail
        obtain ⟨w3, e3, hg3, b3, s3⟩ := al_out w2 (.cells #[.string x.1.s, .int .i64 x.1.t, .int .i64 x.1.v, .int .i64 x.1.c, .int .i64 x.1.st, .int .i64 x.1.q, .int .i64 x.2] 66)
        rw [e3]
        have hblt := Hown.out.lt
        have hwz := B2.out.size
        have P3 := Lib.hid ((hg3.block p (Nat.lt_of_lt_of_le (blk_lt H.out.blk) hwz)).trans ((B2.out.block p (blk_lt H.out.blk) Hpb.out).trans H.out.blk))
        have Hab := Lib.hid (show ¬ w2.heap.size = b from fun z => by omega)
        have HB3 := Lib.hid (B2.out.tr (.of hg3))
        have HR3 := Lib.hid (ranges_gr HR2.out hg3)
        obtain ⟨A6, eA⟩ : ∃ A, w2.heap.size = A := ⟨_, rfl⟩
        rw [eA] at b3 Hab ⊢
        have B6 := Lib.hid b3
        have Hdl := Lib.hid hdl
        have Hxt := Lib.hid hxt
        clear e3 hg3 b3 s3 hblt hwz eA hdl hxt
        refine region_start (S := fun w' => Bt (fun k => k = b) w3 w') (by kernel_rfl) (by exact Bt.of (Gr.dr Gr.rfl')) (fun wz hz0 hHeld => ?_)
        simp only [List.size_toArray, List.length_cons, List.length_nil, Nat.reduceAdd]
        refine wpAnyH_take (i := 0) (oi := ?_) (v := ?_) ?_ (by kernel_rfl) (by kernel_rfl) (by kernel_rfl) ?_ ?_ (by assumption) ?_; rotate_left 2; (focus (simp only [List.getElem?_toArray, List.getElem?_cons_zero]; rfl)); (focus (exact fun _ _ _ h => h)); first | (focus (refine Or.inl ⟨by rfl, ?_⟩; intro w hSw; (try dsimp only at hSw); (try dsimp only [Array.getD]); go_simp; (try with_reducible rfl))) | (focus (refine Or.inr ⟨by rfl, ?_⟩; rfl)) | fail "op 0"
        try simp only [Act.put, List.setIfInBounds_toArray, List.set_cons_zero, List.set_cons_succ]
        refine wpAnyH_take (i := 1) (oi := ?_) (v := ?_) ?_ (by kernel_rfl) (by kernel_rfl) (by kernel_rfl) ?_ ?_ (by assumption) ?_; rotate_left 2; (focus (simp only [List.getElem?_toArray, List.getElem?_cons_succ, List.getElem?_cons_zero]; rfl)); (focus (exact fun _ _ _ h => h)); first | (focus (refine Or.inl ⟨by rfl, ?_⟩; intro w hSw; (try dsimp only at hSw); (try dsimp only [Array.getD]); go_simp; (try with_reducible rfl))) | (focus (refine Or.inr ⟨by rfl, ?_⟩; rfl)) | fail "op 1"
        try simp only [Act.put, List.setIfInBounds_toArray, List.set_cons_zero, List.set_cons_succ]
        refine wpAnyH_take (i := 2) (oi := ?_) (v := ?_) ?_ (by kernel_rfl) (by kernel_rfl) (by kernel_rfl) ?_ ?_ (by assumption) ?_; rotate_left 2; (focus (simp only [List.getElem?_toArray, List.getElem?_cons_succ, List.getElem?_cons_zero]; rfl)); (focus (exact fun _ _ _ h => h)); first | (focus (refine Or.inl ⟨by rfl, ?_⟩; intro w hSw; (try dsimp only at hSw); (try dsimp only [Array.getD]); go_simp; (try with_reducible rfl))) | (focus (refine Or.inr ⟨by rfl, ?_⟩; rfl)) | fail "op 2"
        try simp only [Act.put, List.setIfInBounds_toArray, List.set_cons_zero, List.set_cons_succ]
        refine wpAnyH_take (i := 3) (oi := ?_) (v := ?_) ?_ (by kernel_rfl) (by kernel_rfl) (by kernel_rfl) ?_ ?_ (by assumption) ?_; rotate_left 2; (focus (simp only [List.getElem?_toArray, List.getElem?_cons_succ, List.getElem?_cons_zero]; rfl)); (focus (exact fun _ _ _ h => h)); first | (focus (refine Or.inl ⟨by rfl, ?_⟩; intro w hSw; (try dsimp only at hSw); have c1 := (cell_of_row w p 1 _ _ _ ((hSw.block p (blk_lt P3.out) Hpb.out).trans P3.out)).trans rfl; (try dsimp only [Array.getD]); go_simp; (try with_reducible rfl))) | (focus (refine Or.inr ⟨by rfl, ?_⟩; rfl)) | fail "op 3"
        try simp only [Act.put, List.setIfInBounds_toArray, List.set_cons_zero, List.set_cons_succ]
        refine wpAnyH_take (i := 4) (oi := ?_) (v := ?_) ?_ (by kernel_rfl) (by kernel_rfl) (by kernel_rfl) ?_ ?_ (by assumption) ?_; rotate_left 2; (focus (simp only [List.getElem?_toArray, List.getElem?_cons_succ, List.getElem?_cons_zero]; rfl)); (focus (exact fun _ _ _ h => h)); first | (focus (refine Or.inl ⟨by rfl, ?_⟩; intro w hSw; (try dsimp only at hSw); refine (exec_load_row 66 (.tmp 6) (by rfl) A6 (by rfl) _ (hkC x).toArray (0, 0) _ ((hSw.block A6 (blk_lt B6.out) Hab.out).trans B6.out) Try.underlying66 rfl info_hk).trans ?_; with_reducible rfl)) | (focus (refine Or.inr ⟨by rfl, ?_⟩; rfl)) | fail "op 4"
        try simp only [Act.put, List.setIfInBounds_toArray, List.set_cons_zero, List.set_cons_succ]
        refine wpAnyH_ready (rs := [5]) (by kernel_rfl) (by simp) ?_
        refine AllReadyH.cons (o := ?_) ?_ (fun K hK => ?_) AllReadyH.nil; rotate_left; (focus (simp only [List.getElem?_toArray, List.getElem?_cons_succ, List.getElem?_cons_zero]; rfl))
        rw [if_pos (by rfl)]
        have hrz := ranges_gr HR3.out hz0
        have htd := hrz.owns.tidy lawK
        obtain ⟨w9, cnt3, hrun9, hrg9, hle9, ht9⟩ := hrz.drop lawK Try.underlying60 (hkeyH HI.out) 0
        refine wp_delete_run (.tmp 26) (.tmp 27) _ _ rfl _ _ rfl rfl (fun _ => hrun9) ?_
        refine hK.out _ _ ((Bt.of hz0).tr (Bt.row ht9.grown rfl)) (fun hHeld => ?_)
        clear hK K
        try simp only [Act.put, List.setIfInBounds_toArray, List.set_cons_zero, List.set_cons_succ]
        refine wpAnyH_done (by kernel_rfl) ?_ _
        have HB9 := Lib.hid ((HB3.out.tr (.of hz0)).tr (Bt.row ht9.grown rfl))
        have HR9 := Lib.hid hrg9
        have HS9 := Lib.hid (show SetD (D'.del (keyH x)) (M (d ++ [x])) by rw [HX.out]; exact HS.out.del (HNd.out d) htd HI.out)
        have Hl9 := Lib.hid (show ∀ kl, ((left kl && !kl.sameKey (keyH x)) && !kl.sameKey (keyH x)) = true → Maps.has (D'.del (keyH x)) kl = true from fun kl hk => by
          simp only [Bool.and_eq_true, Bool.not_eq_true'] at hk
          rw [has_del_other (fun e => by rw [e, WideAt.sameKey_self (lawK.key (hkeyH HI.out))] at hk; cases hk.2)]
          exact Hl2.out kl (by rw [hk.1.1, hk.1.2]; rfl))
        have HM9 := Lib.hid (HSt.out.mono (left' := fun z => (left z && !z.sameKey (keyH x)) && !z.sameKey (keyH x)) (fun y _ => by show ((_ && _) && _) = (_ && _); cases left (keyH y) <;> cases (keyH y).sameKey (keyH x) <;> rfl))
        clear hHeld hrg9 ht9 hrun9 hz0 hrz htd
        have hw : IntKind.i64.wrap ((L.length : Int) - (M d).length + 1) = (L.length : Int) - (M d).length + 1 := wrap_id (by unfold I64; omega)
        go_wp2_with fail
        go_roundw
        case rel => exact ⟨d ++ [x], _, _, cnt3, HR9.out, Hl9.out, HM9, HS9, by simp; omega, by congr 1; have := Hdl.out; omega, HB9⟩
        case measure => rw [HR9.out.left_eq, Hrg.out.left_eq]; omega
      · have HX := Lib.hid (HN.out d x (by omega))
        go_wp2_with fail
        have hgw : Gr w2 (w2.alloc (.cells (hkC x).toArray 66)) := Gr.al Gr.rfl' _
        have hrg7 := Lib.hid (ranges_gr HR2.out hgw)
        go_roundw
        case rel => exact ⟨d ++ [x], D', _, cnt2, hrg7.out, Hl2.out, HSt, by rw [HX.out]; exact HS, by simp; omega, by rw [HX.out], Lib.hid (B2.out.tr (.of hgw))⟩
        case measure => rw [hrg7.out.left_eq, Hrg.out.left_eq]; exact hlt
end Go.Proofs.Ytijgbfhjimlklaa

/- The reference's buffer: Next. -/
import Derived.Test.YtnneebdcaefgoaaCcD
namespace Go.Proofs.Ytnneebdcaefgoaa
open Go.RowKit Go.Maps

def RNextPost (E : Nat → Prop) (w : World) (p N : Nat) (most : Int) (out : List Int) (v : Value) (L : List (Rec × Value)) (e : Ending) (w' : World) : Prop :=
  (∃ (k i : Nat) (hi : i < L.length), k < 8 ∧ (∀ j : Nat, j < k → rnextOf out (recsOf L) j = none) ∧ rnextOf out (recsOf L) k = some i ∧ e = .returned (.tuple #[recV L[i].1 L[i].2, .bool true]) ∧
    ∃ v', RefE E w' p N most (withV out k L[i].1.q) v' (L.eraseIdx i) ∧ Bt (LX p v) w w' ∧ (∀ b, v'.ownBlock = some b → w.heap.size ≤ b)) ∨
  ((∀ j : Nat, j < 8 → rnextOf out (recsOf L) j = none) ∧ e = .returned (.tuple #[recV noRec (.slice none 0 0), .bool false]) ∧ Gr w w')
theorem rnextOf_cases (out : List Int) (l : List Rec) (k : Int) : (findI l k (atV out k + 1) = -1 ∧ rnextOf out l k = none) ∨
    ∃ (i : Nat) (hi : i < l.length), findI l k (atV out k + 1) = i ∧ l[i].st = k ∧ l[i].q = atV out k + 1 ∧ ((Due out l[i] ∧ rnextOf out l k = some i) ∨ (¬ Due out l[i] ∧ rnextOf out l k = none)) := by
  unfold findI rnextOf
  cases h : l.findIdx? (fun r => decide (r.st = k ∧ r.q = atV out k + 1)) with
  | none => left; exact ⟨rfl, rfl⟩
  | some i =>
    right
    obtain ⟨hi, e⟩ := find_idx h
    have hp := List.find?_some e
    simp only [decide_eq_true_eq] at hp
    refine ⟨i, hi, rfl, hp.1, hp.2, ?_⟩
    simp only [List.getElem?_eq_getElem hi]
    by_cases hd : Due out l[i]
    · left; exact ⟨hd, if_pos hd⟩
    · right; exact ⟨hd, if_neg hd⟩
theorem seg_rd {w : World} {b o : Nat} {L : List (Rec × Value)} (h : ∀ j (hj : j < L.length), w.rangeAt b (o + j * 9) (recL L[j])) (s n : Nat) (hn : s + n ≤ L.length) : ∀ t u, (encR ((L.drop s).take n))[t]? = some u → w.cell? ⟨b, o + s * 9 + t, none⟩ = some u :=
  rd_of_each recL 9 (fun _ => rfl) _ _ (fun i hi j u hu => by
    rw [List.length_take, List.length_drop] at hi
    have hu' : (recL (L[s + i]'(by omega)))[j]? = some u := by simpa using hu
    have := h (s + i) (by omega) j u hu'
    rw [show o + s * 9 + (i * 9 + j) = o + (s + i) * 9 + j by omega]; exact this)
theorem encR_one {M : List (Rec × Value)} (h : ∀ x ∈ M, x.2.oneCell' = true) : ∀ u ∈ encR M, u.oneCell' = true := by
  intro u hu
  obtain ⟨x, hx, hu⟩ := List.mem_flatMap.1 hu
  have h1 := one_rec x.1 x.2 (h x hx)
  rw [Array.all_eq_true_iff_forall_mem] at h1
  exact h1 u (by unfold recL at hu; exact Array.mem_toList_iff.1 hu)
theorem RefX.wid {X Y : Nat → Prop} {w : World} {p N : Nat} {most : Int} {out : List Int} {v : Value} {L : List (Rec × Value)} (h : RefX X w p N most out v L) (hy : ∀ k, Y k → X k ∨ w.heap.size ≤ k) : RefX Y w p N most out v L := by
  obtain ⟨⟨ov, h1, h2⟩, h3, h4, h5, h6⟩ := h
  exact ⟨⟨ov, h1, h2.wid hy⟩, h3, h4, h5, fun x hx => (h6 x hx).wid hy⟩
theorem RefX.bt {X Y : Nat → Prop} {w w' : World} {p N : Nat} {most : Int} {out : List Int} {v : Value} {L : List (Rec × Value)} (h : RefX X w p N most out v L) (hb : Bt Y w w') (hy : ∀ k, Y k → X k) (hp : ¬ Y p) (hv : ∀ b, v.ownBlock = some b → ¬ Y b) : RefX X w' p N most out v L := by
  obtain ⟨⟨ov, h1, h2⟩, h3, h4, h5, h6⟩ := h
  exact ⟨⟨ov, (hb.block p (blk_lt h1) hp).trans h1, h2.bt hb hy⟩, own_bt h3 hb hv, h4, h5, fun x hx => (h6 x hx).bt hb hy⟩
set_option maxRecDepth 100000 in
set_option maxHeartbeats 8000000 in
theorem rnext_calls (E : Nat → Prop) (w : World) (p N : Nat) (most : Int) (out : List Int) (v : Value) (L : List (Rec × Value)) (h : RefE E w p N most out v L) (ho : out.length ≤ 1000000) (hn : L.length ≤ 1000) (hk : ∀ x ∈ L, x.1.d.length ≤ 1000000) (hE : ∀ k, E k → k < w.heap.size) :
    Calls Try.prog 25 #[.pointer (some ⟨p, 0, none⟩)] w (RNextPost E w p N most out v L) := by
  obtain ⟨ov, hblk, hr⟩ := h.blk
  have Hat := Lib.hid (fun W (hg : Gr w W) (s : Int) => rat_calls ov out s W (hr.1.gr hg) ho)
  have Hfd := Lib.hid (fun W (hg : Gr w W) (s q : Int) => find_calls W p N most out v L (h.gr' hg) hn s q)
  have Hdu := Lib.hid (fun W (hg : Gr w W) (r : Rec) (d : Value) (hd : rdRow W 1 d r.d.length (encI r.d)) (hk : r.d.length ≤ 1000000) => rdue_calls W p N most out v L (h.gr' hg) ho r d hd hk)
  have Hwi := Lib.hid (fun W (hg : Gr w W) (s n : Int) => rwith_calls ov out s n W (hr.1.gr hg) ho)
  have HL := Lib.hid h; have HE := Lib.hid hE; have Hblk := Lib.hid hblk; have Hk := Lib.hid hk
  obtain ⟨a, c, rfl, hc⟩ := h.form
  clear h hE hblk hr hk
  go_enter Try.func25, Try.ntmps25
  go_wp2_with fail
  obtain ⟨W0, e0, g0, b0, s0⟩ := al_out w (.cells #[.int .i64 0, .string ⟨#[]⟩, .int .i64 0, .int .i64 0, .int .i64 0, .int .i64 0, .int .i64 0, .int .i64 0, .slice none 0 0] 33)
  rw [e0]
  obtain ⟨A2, eA2⟩ : ∃ A, w.heap.size = A := ⟨_, rfl⟩
  rw [eA2] at b0 s0 ⊢
  have B0 := Lib.hid b0; have G0 := Lib.hid g0; have S0 := Lib.hid s0; have EA := Lib.hid eA2
  clear b0 g0 s0 e0 eA2
  go_wp2_with fail
  go_loopw [4] (fun i wr => ∃ k : Nat, k ≤ 8 ∧ i = .int .i64 k ∧ Gr W0 wr ∧ Hid (∀ j : Nat, j < k → rnextOf out (recsOf L) j = none)) (fun i _ => 8 - (intOf i).toNat)
  case atStart => exact ⟨0, by omega, rfl, Gr.rfl', Lib.hid (fun j hj => absurd hj (by omega))⟩
  case round =>
    obtain ⟨k, hk8, rfl, hg, hnone⟩ := hrel
    by_cases hlt : k < 8
    · have hlt' : (k : Int) < 8 := by omega
      have Gw := Lib.hid (G0.out.tr hg)
      have c1 := (cell_of_row wr p 1 _ _ _ (Gw.out.blk Hblk.out)).trans rfl
      have hann := atV_nn out (k : Int)
      have hca := rnextOf_cases out (recsOf L) k
      have hat := fun W (hg : Gr w W) => Hat.out W hg (k : Int)
      obtain ⟨aa, haa⟩ : ∃ aa, atV out (k : Int) = aa := ⟨_, rfl⟩
      rw [haa] at hann hca hat
      have hwr : IntKind.i64.wrap (aa + 1) = aa + 1 := wrap_id (by unfold topN at hann; unfold I64; omega)
      have hfd := fun W (hg : Gr w W) => Hfd.out W hg (k : Int) (aa + 1)
      rcases hca with ⟨h1, h2⟩ | ⟨i, hi, h1, h2, h3, h4⟩
      · rw [h1] at hfd
        have Hat2 := Lib.hid hat; have Hfd2 := Lib.hid hfd
        have hnone' := Lib.hid (show ∀ j : Nat, j < k + 1 → rnextOf out (recsOf L) j = none from fun j hj => by
          by_cases e : j = k
          · subst e; exact h2
          · exact hnone.out j (by omega))
        clear hnone h1 h2 hat hfd hann haa
        go_wp2_with (first | (go_at_call 19; refine (Hat2.out _ Gw.out).mono ?_; rintro e w1 ⟨rfl, hb⟩) | (go_at_call 45; refine (Hfd2.out _ (Gw.out.tr hb)).mono ?_; rintro e w2 ⟨rfl, rfl⟩))
        go_roundw
        case rel => exact ⟨k + 1, by omega, by go_num, hg.tr hb, hnone'⟩
        case measure => simp [intOf]; omega
      · have hil : i < L.length := by rw [recsOf_len] at hi; exact hi
        rw [h1] at hfd
        rw [recsOf_get] at h2 h3
        have h4' : (Due out L[i].1 ∧ rnextOf out (recsOf L) k = some i) ∨ (¬ Due out L[i].1 ∧ rnextOf out (recsOf L) k = none) := by rw [recsOf_get] at h4; exact h4
        clear h4
        obtain ⟨bg, og, cg, eg, _, hrg⟩ := rd_range recL 9 (fun _ => rfl) (rdRow_of_own (own_gr HL.out.own Gw.out)) (by omega)
        injection eg with eg1 eg2 eg3
        subst eg1
        have Hrg := Lib.hid (hrg i hil); have Hall := Lib.hid hrg
        have hdp := HL.out.deps _ (List.getElem_mem hil)
        have hkx := Hk.out _ (List.getElem_mem hil)
        obtain ⟨x, hx⟩ : ∃ x, L[i] = x := ⟨_, rfl⟩
        rw [hx] at Hrg hdp hkx h2 h3 h4'
        have g1 : (0 : Int) ≤ (i : Int) := by omega
        have g2 : (i : Int) < (L.length : Int) := by omega
        have g3 : ¬ (i : Int) < 0 := by omega
        have hdu := fun W (hg : Gr w W) => Hdu.out W hg x.1 x.2 (hdp.1.gr hg) hkx
        have Hat2 := Lib.hid hat; have Hfd2 := Lib.hid hfd
        have HX := Lib.hid hx; have H2 := Lib.hid h2; have H3 := Lib.hid h3
        clear hat hfd hann haa hrg eg3 h1 hx h2 h3
        rcases h4' with ⟨hd, h4⟩ | ⟨hd, h4⟩
        · rw [decide_eq_true hd] at hdu
          have Hdu2 := Lib.hid hdu
          have H4 := Lib.hid h4
          clear hdu hd h4
          have hd1 := rdX_one hdp
          have Hd1 := Lib.hid hd1
          clear hd1
          go_wp2_with (first | (go_at_call 19; refine (Hat2.out _ Gw.out).mono ?_; rintro e w1 ⟨rfl, hb⟩; have c2 := (cell_of_row w1 p 2 _ _ _ ((Gw.out.tr hb).blk Hblk.out)).trans rfl; have hR1 := Lib.hid (rangeAt_gr hb Hrg.out)) | (go_at_call 45; refine (Hfd2.out _ (Gw.out.tr hb)).mono ?_; rintro e w2 ⟨rfl, rfl⟩) | (refine wpList_load_mid rfl 33 (.tmp 31) rfl bg (og + i * 9) rfl (recL x) _ hR1.out Try.underlying33 rfl info_rec ?_) | (go_at_call 46; refine (Hdu2.out _ (Gw.out.tr hb)).mono ?_; rintro e w3 ⟨rfl, hb3⟩; have c23 := (cell_of_row w3 p 2 _ _ _ (((Gw.out.tr hb).tr hb3).blk Hblk.out)).trans rfl; have hR3 := Lib.hid (rangeAt_gr hb3 hR1.out)) | (refine wpList_load_mid rfl 33 (.tmp 41) rfl bg (og + i * 9) rfl (recL x) _ hR3.out Try.underlying33 rfl info_rec ?_) | (refine wpList_store_blk rfl 33 (.tmp 7) (.tmp 42) rfl w3.heap.size (recC x.1 x.2) rfl rfl _ _ (heap_alloc_new w3 _) rfl info_rec (one_rec _ _ Hd1.out) (fun w5 b5 g5 s5 => ?_); (have hg5 : Gr w3 w5 := gr_new (Gr.al Gr.rfl' (.cells #[.int .i64 0, .string ⟨#[]⟩, .int .i64 0, .int .i64 0, .int .i64 0, .int .i64 0, .int .i64 0, .int .i64 0, .slice none 0 0] 33)) g5 (Nat.le_refl _)); have c25 := (cell_of_row w5 p 2 _ _ _ ((((Gw.out.tr hb).tr hb3).tr hg5).blk Hblk.out)).trans rfl) | (at_builtin; refine Hid.out ?_))
          obtain ⟨i0, hi0, hz0, hz1, hz2⟩ := info_parts infoRecs
          have G5 := Lib.hid (((Gw.out.tr hb).tr hb3).tr hg5)
          have R5 := Lib.hid (fun j hj => rangeAt_gr ((hb.tr hb3).tr hg5) (Hall.out j hj))
          have HNw : N ≤ w.heap.size := Nat.le_trans HL.out.pN (Nat.le_of_lt (blk_lt Hblk.out))
          have hone := fun y hy => rdX_one (HL.out.deps y hy)
          apply Lib.hid
          refine wpList_append_own_at _ rfl (.tmp 43) (.tmp 49) 24 rfl N 33 i0 recZ 9 96 Try.underlying24 hi0 hz0 hz1 hz2 rfl (by decide) (.slice none 0 0) 0 [] rfl (World.ownsRow_nil _ _ _ _) ⟨bg, og, none⟩ i c (encR ((L.drop 0).take i)) rfl (by rw [encR_len, List.length_take, List.length_drop]; congr 1; omega) (fun j u hu => by have := seg_rd R5.out 0 i (by omega) j u hu; rw [Addr.add_mid]; simpa using this) (encR_one (fun y hy => hone y (List.mem_of_mem_drop (List.mem_of_mem_take hy)))) (by unfold maxLen; omega) (by omega) (Nat.le_trans HNw G5.out.size) (fun v6 w6 hown6 hg6 _ hat6 => ?_)
          have hgr6 : Gr w5 w6 := ⟨hg6.os, hg6.tape, hg6.output, hg6.size, fun b hb => hg6.block b hb (by simp [Value.ownBlock])⟩
          have hnew6 : ∀ b, v6.ownBlock = some b → w5.heap.size ≤ b := fun b hb => by
            rcases hat6 with e | e
            · rw [e] at hb; simp [Value.ownBlock] at hb
            · rw [e] at hb; injection hb with hb; omega
          have ho6 := own_cast hown6 (Nat.zero_add i) (List.nil_append _)
          obtain ⟨a6, c6, rfl⟩ := own_slice ho6
          have c26 := (cell_of_row w6 p 2 _ _ _ ((G5.out.tr hgr6).blk Hblk.out)).trans rfl
          have g4 : (i : Int) + 1 ≤ (L.length : Int) := by omega
          have g5' : (0 : Int) ≤ (i : Int) + 1 := by omega
          have HO6 := Lib.hid ho6; have G6 := Lib.hid (G5.out.tr hgr6); have R6 := Lib.hid (fun j hj => rangeAt_gr hgr6 (R5.out j hj)); have HN6 := Lib.hid hnew6; have B6 := Lib.hid (hgr6.blk b5)
          have HS6 := Lib.hid hgr6.size
          have HLw := Lib.hid (RefX.wid (Y := fun k => LX p (.slice (some ⟨bg, og, none⟩) L.length c) k ∨ (E k ∨ k = A2)) HL.out (fun k hk => by rcases hk with hk | hk | hk; exact .inl (.inl hk); exact .inl (.inr hk); exact .inr (by rw [EA.out, hk]; exact Nat.le_refl _)))
          have hA7 : w.heap.size ≤ w3.heap.size := ((Gw.out.tr hb).tr hb3).size
          have hA5 := blk_lt b5
          have hA2 : A2 < w3.heap.size := Nat.lt_of_lt_of_le (blk_lt B0.out) ((hg.tr hb).tr hb3).size
          have B26 := Lib.hid ((((hg.tr hb).tr hb3).tr (hg5.tr hgr6)).blk B0.out)
          obtain ⟨A7, eA7⟩ : ∃ A, w3.heap.size = A := ⟨_, rfl⟩
          rw [eA7] at B6 hA7 hA5 hA2 ⊢
          have HA7 := Lib.hid hA7; have HA5 := Lib.hid hA5; have HA2 := Lib.hid hA2
          clear hown6 hg6 hat6 hgr6 hnew6 ho6 c2 c23 c25 b5 g5 s5 hg5 hb3 hb hA7 hA5 hA2 eA7
          by_cases hic : i + 1 = c
          · have hli : L.length - (i + 1) = 0 := by omega
            go_wp2_with (at_builtin; refine Hid.out ?_)
            apply Lib.hid
            refine wpList_append_own_at _ rfl (.tmp 52) (.tmp 59) 24 rfl N 33 i0 recZ 9 96 Try.underlying24 hi0 hz0 hz1 hz2 rfl (by decide) (.slice a6 i c6) i (encR ((L.drop 0).take i)) rfl HO6.out ⟨bg, og, none⟩ (L.length - (i + 1)) 0 (encR ((L.drop (i + 1)).take (L.length - (i + 1)))) (by simp only [Act.eval]; simp [hic]; omega) (by rw [encR_len, List.length_take, List.length_drop]; congr 1; omega) (fun j u hu => by rw [hli] at hu; simp [encR] at hu) (encR_one (fun y hy => hone y (List.mem_of_mem_drop (List.mem_of_mem_take hy)))) (by unfold maxLen; omega) (by omega) (Nat.le_trans HNw G6.out.size) (fun v7 w7 hown7 hg7 _ hat7 => ?_)
            have ho7 := own_cast hown7 (show i + (L.length - (i + 1)) = (L.eraseIdx i).length by rw [List.length_eraseIdx_of_lt hil]; omega) (show encR ((L.drop 0).take i) ++ encR ((L.drop (i + 1)).take (L.length - (i + 1))) = encR (L.eraseIdx i) by rw [List.eraseIdx_eq_take_drop_succ, List.drop_zero, List.take_of_length_le (l := L.drop (i + 1)) (by rw [List.length_drop]; exact Nat.le_refl _)]; simp [encR])
            have hb67 : Bt (fun b => (Value.slice a6 i c6).ownBlock = some b) w6 w7 := ⟨hg7.os, hg7.tape, hg7.output, hg7.size, fun b hb hne => hg7.block b hb (fun e => hne e.symm)⟩
            have G7 := Lib.hid (hb67.gr G6.out (fun b hb => Nat.le_trans G5.out.size (HN6.out b hb)))
            have HN7 := Lib.hid (show ∀ b, v7.ownBlock = some b → w.heap.size ≤ b from fun b hb => by
              rcases hat7 with e | e
              · rw [e] at hb; exact Nat.le_trans G5.out.size (HN6.out b hb)
              · rw [e] at hb; injection hb with hb; have := G6.out.size; omega)
            have HM7 := Lib.hid (show ∀ b, v7.ownBlock = some b → w5.heap.size ≤ b from fun b hb => by
              rcases hat7 with e | e
              · rw [e] at hb; exact HN6.out b hb
              · rw [e] at hb; injection hb with hb; have := HS6.out; omega)
            have B77 := Lib.hid ((hb67.block A7 (blk_lt B6.out) (fun e => by have := HN6.out _ e; have := HA5.out; omega)).trans B6.out)
            have B27 := Lib.hid ((hb67.block A2 (blk_lt B26.out) (fun e => by have := HN6.out _ e; have := HA5.out; have := HA2.out; omega)).trans B26.out)
            obtain ⟨a7, c7, rfl⟩ := own_slice ho7
            have HO7 := Lib.hid ho7
            have hp7 := G7.out.blk Hblk.out
            have c27 := (cell_of_row w7 p 2 _ _ _ hp7).trans rfl
            have f27 := frozen_of_row w7 p 2 _ _ hp7
            clear hown7 hg7 hat7 ho7 hp7 hb67 c26 g5'
            go_wp2_with fail
            have h8 := RefX.snoc (E := fun k => E k ∨ k = A2) (L' := L.eraseIdx i) HLw.out Gr.rfl' (Bt.of G7.out) HO7.out (.inr HN7.out) (fun y hy => HLw.out.deps y (List.mem_of_mem_eraseIdx hy))
            have gs := grown_set w7 p 2 (.slice a7 (L.eraseIdx i).length c7)
            have hpw := blk_lt Hblk.out
            have b8 := blk_far gs B77.out (by have := HA7.out; omega)
            have b28 := blk_far gs B27.out (by have := EA.out; omega)
            have hs8 : w7.heap.size ≤ (w7.setCell ⟨p, 2, none⟩ (.slice a7 (L.eraseIdx i).length c7)).heap.size := gs.size
            obtain ⟨w8, hw8⟩ : ∃ W, w7.setCell ⟨p, 2, none⟩ (.slice a7 (L.eraseIdx i).length c7) = W := ⟨_, rfl⟩
            rw [hw8] at h8 b8 b28 hs8 ⊢
            obtain ⟨h81, h82, h83⟩ := h8
            obtain ⟨ov8, hblk8, hr8⟩ := h81.blk
            have hwi8 := fun W (hg : Gr w8 W) => rwith_calls ov8 out k x.1.q W (hr8.1.gr hg) ho
            have H8 := Lib.hid h81; have T8 := Lib.hid h82; have N8 := Lib.hid h83; have B8 := Lib.hid b8; have B28 := Lib.hid b28; have Hwi8 := Lib.hid hwi8; have Hb8 := Lib.hid hblk8
            clear hw8 h81 h82 h83 b8 b28 hwi8 hblk8 hr8 gs hs8 hpw c27 f27
            clear G7 B77 B27 HO7 HO6 HN6 B26 B6 G6 R6 
            go_wp2_with fail
            refine region_startJ (S := fun w' => Gr w8 w') 12 (by kernel_rfl) (by exact Gr.dr Gr.rfl') (fun wz hz0 hHeld => ?_)
            simp only [List.size_toArray, List.length_cons, List.length_nil, Nat.reduceAdd]
            refine wpAnyJ_take (i := 0) (oi := ?_) (v := ?_) ?_ (by kernel_rfl) ?_ ?_ (by assumption) ?_; rotate_left 2; (focus (simp only [List.getElem?_toArray, List.getElem?_cons_zero]; rfl)); (focus (exact fun _ _ _ h => h)); first | (focus (refine Or.inl ⟨by rfl, ?_⟩; intro w hSw; (try dsimp only at hSw); (try dsimp only [Array.getD]); go_simp; (try with_reducible rfl))) | (focus (refine Or.inr ⟨by rfl, ?_⟩; rfl)) | fail "op 0"
            try simp only [Act.put, List.setIfInBounds_toArray, List.set_cons_zero, List.set_cons_succ]
            refine wpAnyJ_take (i := 1) (oi := ?_) (v := ?_) ?_ (by kernel_rfl) ?_ ?_ (by assumption) ?_; rotate_left 2; (focus (simp only [List.getElem?_toArray, List.getElem?_cons_succ, List.getElem?_cons_zero]; rfl)); (focus (exact fun _ _ _ h => h)); first | (focus (refine Or.inl ⟨by rfl, ?_⟩; intro w hSw; (try dsimp only at hSw); (try dsimp only [Array.getD]); go_simp; (try with_reducible rfl))) | (focus (refine Or.inr ⟨by rfl, ?_⟩; rfl)) | fail "op 1"
            try simp only [Act.put, List.setIfInBounds_toArray, List.set_cons_zero, List.set_cons_succ]
            refine wpAnyJ_take (i := 2) (oi := ?_) (v := ?_) ?_ (by kernel_rfl) ?_ ?_ (by assumption) ?_; rotate_left 2; (focus (simp only [List.getElem?_toArray, List.getElem?_cons_succ, List.getElem?_cons_zero]; rfl)); (focus (exact fun _ _ _ h => h)); first | (focus (refine Or.inl ⟨by rfl, ?_⟩; intro w hSw; (try dsimp only at hSw); (try dsimp only [Array.getD]); go_simp; (try with_reducible rfl))) | (focus (refine Or.inr ⟨by rfl, ?_⟩; rfl)) | fail "op 2"
            try simp only [Act.put, List.setIfInBounds_toArray, List.set_cons_zero, List.set_cons_succ]
            refine wpAnyJ_take (i := 3) (oi := ?_) (v := ?_) ?_ (by kernel_rfl) ?_ ?_ (by assumption) ?_; rotate_left 2; (focus (simp only [List.getElem?_toArray, List.getElem?_cons_succ, List.getElem?_cons_zero]; rfl)); (focus (exact fun _ _ _ h => h)); first | (focus (refine Or.inl ⟨by rfl, ?_⟩; intro w hSw; (try dsimp only at hSw); (try dsimp only [Array.getD]); go_simp; (try with_reducible rfl))) | (focus (refine Or.inr ⟨by rfl, ?_⟩; rfl)) | fail "op 3"
            try simp only [Act.put, List.setIfInBounds_toArray, List.set_cons_zero, List.set_cons_succ]
            refine wpAnyJ_take (i := 4) (oi := ?_) (v := ?_) ?_ (by kernel_rfl) ?_ ?_ (by assumption) ?_; rotate_left 2; (focus (simp only [List.getElem?_toArray, List.getElem?_cons_succ, List.getElem?_cons_zero]; rfl)); (focus (exact fun _ _ _ h => h)); first | (focus (refine Or.inl ⟨by rfl, ?_⟩; intro w hSw; (try dsimp only at hSw); have c81 := (cell_of_row w p 1 _ _ _ (hSw.blk Hb8.out)).trans rfl; (try dsimp only [Array.getD]); go_simp; (try with_reducible rfl))) | (focus (refine Or.inr ⟨by rfl, ?_⟩; rfl)) | fail "op 4"
            try simp only [Act.put, List.setIfInBounds_toArray, List.set_cons_zero, List.set_cons_succ]
            refine wpAnyJ_take (i := 5) (oi := ?_) (v := ?_) ?_ (by kernel_rfl) ?_ ?_ (by assumption) ?_; rotate_left 2; (focus (simp only [List.getElem?_toArray, List.getElem?_cons_succ, List.getElem?_cons_zero]; rfl)); (focus (exact fun _ _ _ h => h)); first | (focus (refine Or.inl ⟨by rfl, ?_⟩; intro w hSw; (try dsimp only at hSw); (try dsimp only [Array.getD]); go_simp; (try with_reducible rfl))) | (focus (refine Or.inr ⟨by rfl, ?_⟩; rfl)) | fail "op 5"
            try simp only [Act.put, List.setIfInBounds_toArray, List.set_cons_zero, List.set_cons_succ]
            refine wpAnyJ_take (i := 6) (oi := ?_) (v := ?_) ?_ (by kernel_rfl) ?_ ?_ (by assumption) ?_; rotate_left 2; (focus (simp only [List.getElem?_toArray, List.getElem?_cons_succ, List.getElem?_cons_zero]; rfl)); (focus (exact fun _ _ _ h => h)); first | (focus (refine Or.inl ⟨by rfl, ?_⟩; intro w hSw; (try dsimp only at hSw); (try dsimp only [Array.getD]); go_simp; (try with_reducible rfl))) | (focus (refine Or.inr ⟨by rfl, ?_⟩; rfl)) | fail "op 6"
            try simp only [Act.put, List.setIfInBounds_toArray, List.set_cons_zero, List.set_cons_succ]
            refine wpAnyJ_take (i := 7) (oi := ?_) (v := ?_) ?_ (by kernel_rfl) ?_ ?_ (by assumption) ?_; rotate_left 2; (focus (simp only [List.getElem?_toArray, List.getElem?_cons_succ, List.getElem?_cons_zero]; rfl)); (focus (exact fun _ _ _ h => h)); first | (focus (refine Or.inl ⟨by rfl, ?_⟩; intro w hSw; (try dsimp only at hSw); (try dsimp only [Array.getD]); go_simp; (try with_reducible rfl))) | (focus (refine Or.inr ⟨by rfl, ?_⟩; rfl)) | fail "op 7"
            try simp only [Act.put, List.setIfInBounds_toArray, List.set_cons_zero, List.set_cons_succ]
            refine wpAnyJ_take (i := 8) (oi := ?_) (v := ?_) ?_ (by kernel_rfl) ?_ ?_ (by assumption) ?_; rotate_left 2; (focus (simp only [List.getElem?_toArray, List.getElem?_cons_succ, List.getElem?_cons_zero]; rfl)); (focus (exact fun _ _ _ h => h)); first | (focus (refine Or.inl ⟨by rfl, ?_⟩; intro w hSw; (try dsimp only at hSw); have c87 := cell_of_row w A7 7 _ _ _ (hSw.blk B8.out); rw [show (recC x.1 x.2)[7]? = some (.int .i64 x.1.q) from rfl] at c87; (try dsimp only [Array.getD]); go_simp; (try with_reducible rfl))) | (focus (refine Or.inr ⟨by rfl, ?_⟩; rfl)) | fail "op 8"
            try simp only [Act.put, List.setIfInBounds_toArray, List.set_cons_zero, List.set_cons_succ]
            refine wpAnyJ_ready (rs := [9]) (by kernel_rfl) (by simp) (by rfl) ?_
            refine AllReadyJ.cons (o := ?_) ?_ (fun K hK => ?_) AllReadyJ.nil; rotate_left; (focus (simp only [List.getElem?_toArray, List.getElem?_cons_succ, List.getElem?_cons_zero]; rfl))
            go_simp
            go_at_call 20
            refine (Hwi8.out _ hHeld).mono ?_
            rintro e w9 ⟨v9, rfl, ho9, hb9⟩
            have Ho9 := Lib.hid ((own_rdX ho9).mono (Y := fun b => LX p (.slice a7 (L.eraseIdx i).length c7) b ∨ (E b ∨ b = A2)) (fun b hb => by rcases hb with hb | hb | hb; exact Nat.lt_of_lt_of_le (H8.out.lt b hb).2 hHeld.size; rotate_left; (rw [hb]; exact Nat.lt_of_lt_of_le (blk_lt B28.out) hHeld.size); exact Nat.lt_of_lt_of_le (HE.out b hb) (Nat.le_trans T8.out.size hHeld.size)))
            obtain ⟨a9, c9, rfl⟩ := own_slice ho9
            clear ho9
            refine hK.out _ _ (hHeld.tr hb9) (fun hHeld => ?_)
            clear hK K
            try simp only [Act.put, List.setIfInBounds_toArray, List.set_cons_zero, List.set_cons_succ]
            refine wpAnyJ_take (i := 10) (oi := ?_) (v := ?_) ?_ (by kernel_rfl) ?_ ?_ (by assumption) ?_; rotate_left 2; (focus (simp only [List.getElem?_toArray, List.getElem?_cons_succ, List.getElem?_cons_zero]; rfl)); (focus (exact fun _ _ _ h => h)); first | (focus (refine Or.inl ⟨by rfl, ?_⟩; intro w hSw; (try dsimp only at hSw); (try dsimp only [Array.getD]); go_simp; (try with_reducible rfl))) | (focus (refine Or.inr ⟨by rfl, ?_⟩; rfl)) | fail "op 10"
            try simp only [Act.put, List.setIfInBounds_toArray, List.set_cons_zero, List.set_cons_succ]
            refine wpAnyJ_take (i := 11) (oi := ?_) (v := ?_) ?_ (by kernel_rfl) ?_ ?_ (by assumption) ?_; rotate_left 2; (focus (simp only [List.getElem?_toArray, List.getElem?_cons_succ, List.getElem?_cons_zero]; rfl)); (focus (exact fun _ _ _ h => h)); first | (focus (refine Or.inl ⟨by rfl, ?_⟩; intro w hSw; (try dsimp only at hSw); (try dsimp only [Array.getD]); go_simp; (try with_reducible rfl))) | (focus (refine Or.inr ⟨by rfl, ?_⟩; rfl)) | fail "op 11"
            try simp only [Act.put, List.setIfInBounds_toArray, List.set_cons_zero, List.set_cons_succ]
            refine wpAnyJ_tail (i := 12) (o := ?_) (by kernel_rfl) (by decide) ?_ (fun K hK => ?_); rotate_left; (focus (simp only [List.getElem?_toArray, List.getElem?_cons_succ, List.getElem?_cons_zero]; rfl))
            have c81 := (cell_of_row _ p 1 _ _ _ (hHeld.blk Hb8.out)).trans rfl; have f81 := frozen_of_row _ p 1 _ _ (hHeld.blk Hb8.out)
            go_simp
            refine hK.out _ _ ?_
            clear hK K
            try simp only [Act.put, List.setIfInBounds_toArray, List.set_cons_zero, List.set_cons_succ]
            refine wpAny_done (by kernel_rfl) ?_ _
            have h9 := (H8.out.gr' hHeld).setOut Ho9.out
            have gs := grown_set w9 p 1 (.slice a9 (withV out k x.1.q).length c9)
            have hpw := blk_lt Hblk.out
            have b9 := blk_far gs (hHeld.blk B8.out) (by have := HA7.out; omega)
            have b29 := blk_far gs (hHeld.blk B28.out) (by have := EA.out; omega)
            have T9 := Lib.hid ((T8.out.tr (Bt.of hHeld)).tr (h9.2.mono (fun k _ hk => .inl hk)))
            have H9 := Lib.hid h9.1; have B9 := Lib.hid b9; have B29 := Lib.hid b29
            clear h9 gs b9 b29 hHeld hb9 Ho9 H8 T8 B8 B28 Hb8 Hwi8
            generalize w9.setCell ⟨p, 1, none⟩ (.slice a9 (withV out k x.1.q).length c9) = w10 at *
            go_wp2_with (first | (refine wpList_load_row rfl 33 (.tmp 7) rfl A7 rfl _ (recC x.1 x.2) (0, 0) _ B9.out Try.underlying33 rfl info_rec ?_) | (refine wpList_store_blk rfl 33 (.tmp 2) (.tmp 75) rfl A2 (recC x.1 x.2) rfl rfl _ _ B29.out rfl info_rec (one_rec _ _ Hd1.out) (fun w11 b11 g11 s11 => ?_)))
            have h11 : Bt (fun k => k = A2) w10 w11 := Bt.row g11 rfl
            have hpw := blk_lt Hblk.out
            refine bodyPost_ret (results_cell_tmp rfl _ _ A2 _ (recC x.1 x.2) (0, 0) _ rfl b11 Try.underlying33 rfl info_rec) rfl (.inl ⟨k, i, hil, hlt, hnone.out, H4.out, ?_, _, ?_, ?_, HN7.out⟩)
            · rw [HX.out]; rfl
            · rw [HX.out]
              exact (H9.out.bt h11 (fun k e => .inr (.inr e)) (fun e => by have := EA.out; omega) (fun b e z => by have := HM7.out b e; have := HA2.out; have := HA5.out; omega)).wid (fun k hk => .inl (hk.imp id .inl))
            · exact T9.out.new g11 (by rw [EA.out]; exact Nat.le_refl _)
          · have hic' := hic
            go_wp2_with (at_builtin; refine Hid.out ?_)
            apply Lib.hid
            refine wpList_append_own_at _ rfl (.tmp 52) (.tmp 59) 24 rfl N 33 i0 recZ 9 96 Try.underlying24 hi0 hz0 hz1 hz2 rfl (by decide) (.slice a6 i c6) i (encR ((L.drop 0).take i)) rfl HO6.out ⟨bg, og + (i + 1) * 9, none⟩ (L.length - (i + 1)) (c - (i + 1)) (encR ((L.drop (i + 1)).take (L.length - (i + 1)))) (by simp only [Act.eval]; simp) (by rw [encR_len, List.length_take, List.length_drop]; congr 1; omega) (fun j u hu => by have := seg_rd R6.out (i + 1) (L.length - (i + 1)) (by omega) j u hu; rw [Addr.add_mid]; exact this) (encR_one (fun y hy => hone y (List.mem_of_mem_drop (List.mem_of_mem_take hy)))) (by unfold maxLen; omega) (by omega) (Nat.le_trans HNw G6.out.size) (fun v7 w7 hown7 hg7 _ hat7 => ?_)
            have ho7 := own_cast hown7 (show i + (L.length - (i + 1)) = (L.eraseIdx i).length by rw [List.length_eraseIdx_of_lt hil]; omega) (show encR ((L.drop 0).take i) ++ encR ((L.drop (i + 1)).take (L.length - (i + 1))) = encR (L.eraseIdx i) by rw [List.eraseIdx_eq_take_drop_succ, List.drop_zero, List.take_of_length_le (l := L.drop (i + 1)) (by rw [List.length_drop]; exact Nat.le_refl _)]; simp [encR])
            have hb67 : Bt (fun b => (Value.slice a6 i c6).ownBlock = some b) w6 w7 := ⟨hg7.os, hg7.tape, hg7.output, hg7.size, fun b hb hne => hg7.block b hb (fun e => hne e.symm)⟩
            have G7 := Lib.hid (hb67.gr G6.out (fun b hb => Nat.le_trans G5.out.size (HN6.out b hb)))
            have HN7 := Lib.hid (show ∀ b, v7.ownBlock = some b → w.heap.size ≤ b from fun b hb => by
              rcases hat7 with e | e
              · rw [e] at hb; exact Nat.le_trans G5.out.size (HN6.out b hb)
              · rw [e] at hb; injection hb with hb; have := G6.out.size; omega)
            have HM7 := Lib.hid (show ∀ b, v7.ownBlock = some b → w5.heap.size ≤ b from fun b hb => by
              rcases hat7 with e | e
              · rw [e] at hb; exact HN6.out b hb
              · rw [e] at hb; injection hb with hb; have := HS6.out; omega)
            have B77 := Lib.hid ((hb67.block A7 (blk_lt B6.out) (fun e => by have := HN6.out _ e; have := HA5.out; omega)).trans B6.out)
            have B27 := Lib.hid ((hb67.block A2 (blk_lt B26.out) (fun e => by have := HN6.out _ e; have := HA5.out; have := HA2.out; omega)).trans B26.out)
            obtain ⟨a7, c7, rfl⟩ := own_slice ho7
            have HO7 := Lib.hid ho7
            have hp7 := G7.out.blk Hblk.out
            have c27 := (cell_of_row w7 p 2 _ _ _ hp7).trans rfl
            have f27 := frozen_of_row w7 p 2 _ _ hp7
            clear hown7 hg7 hat7 ho7 hp7 hb67 c26 g5'
            go_wp2_with fail
            have h8 := RefX.snoc (E := fun k => E k ∨ k = A2) (L' := L.eraseIdx i) HLw.out Gr.rfl' (Bt.of G7.out) HO7.out (.inr HN7.out) (fun y hy => HLw.out.deps y (List.mem_of_mem_eraseIdx hy))
            have gs := grown_set w7 p 2 (.slice a7 (L.eraseIdx i).length c7)
            have hpw := blk_lt Hblk.out
            have b8 := blk_far gs B77.out (by have := HA7.out; omega)
            have b28 := blk_far gs B27.out (by have := EA.out; omega)
            have hs8 : w7.heap.size ≤ (w7.setCell ⟨p, 2, none⟩ (.slice a7 (L.eraseIdx i).length c7)).heap.size := gs.size
            obtain ⟨w8, hw8⟩ : ∃ W, w7.setCell ⟨p, 2, none⟩ (.slice a7 (L.eraseIdx i).length c7) = W := ⟨_, rfl⟩
            rw [hw8] at h8 b8 b28 hs8 ⊢
            obtain ⟨h81, h82, h83⟩ := h8
            obtain ⟨ov8, hblk8, hr8⟩ := h81.blk
            have hwi8 := fun W (hg : Gr w8 W) => rwith_calls ov8 out k x.1.q W (hr8.1.gr hg) ho
            have H8 := Lib.hid h81; have T8 := Lib.hid h82; have N8 := Lib.hid h83; have B8 := Lib.hid b8; have B28 := Lib.hid b28; have Hwi8 := Lib.hid hwi8; have Hb8 := Lib.hid hblk8
            clear hw8 h81 h82 h83 b8 b28 hwi8 hblk8 hr8 gs hs8 hpw c27 f27
            clear G7 B77 B27 HO7 HO6 HN6 B26 B6 G6 R6 
            go_wp2_with fail
            refine region_startJ (S := fun w' => Gr w8 w') 12 (by kernel_rfl) (by exact Gr.dr Gr.rfl') (fun wz hz0 hHeld => ?_)
            simp only [List.size_toArray, List.length_cons, List.length_nil, Nat.reduceAdd]
            refine wpAnyJ_take (i := 0) (oi := ?_) (v := ?_) ?_ (by kernel_rfl) ?_ ?_ (by assumption) ?_; rotate_left 2; (focus (simp only [List.getElem?_toArray, List.getElem?_cons_zero]; rfl)); (focus (exact fun _ _ _ h => h)); first | (focus (refine Or.inl ⟨by rfl, ?_⟩; intro w hSw; (try dsimp only at hSw); (try dsimp only [Array.getD]); go_simp; (try with_reducible rfl))) | (focus (refine Or.inr ⟨by rfl, ?_⟩; rfl)) | fail "op 0"
            try simp only [Act.put, List.setIfInBounds_toArray, List.set_cons_zero, List.set_cons_succ]
            refine wpAnyJ_take (i := 1) (oi := ?_) (v := ?_) ?_ (by kernel_rfl) ?_ ?_ (by assumption) ?_; rotate_left 2; (focus (simp only [List.getElem?_toArray, List.getElem?_cons_succ, List.getElem?_cons_zero]; rfl)); (focus (exact fun _ _ _ h => h)); first | (focus (refine Or.inl ⟨by rfl, ?_⟩; intro w hSw; (try dsimp only at hSw); (try dsimp only [Array.getD]); go_simp; (try with_reducible rfl))) | (focus (refine Or.inr ⟨by rfl, ?_⟩; rfl)) | fail "op 1"
            try simp only [Act.put, List.setIfInBounds_toArray, List.set_cons_zero, List.set_cons_succ]
            refine wpAnyJ_take (i := 2) (oi := ?_) (v := ?_) ?_ (by kernel_rfl) ?_ ?_ (by assumption) ?_; rotate_left 2; (focus (simp only [List.getElem?_toArray, List.getElem?_cons_succ, List.getElem?_cons_zero]; rfl)); (focus (exact fun _ _ _ h => h)); first | (focus (refine Or.inl ⟨by rfl, ?_⟩; intro w hSw; (try dsimp only at hSw); (try dsimp only [Array.getD]); go_simp; (try with_reducible rfl))) | (focus (refine Or.inr ⟨by rfl, ?_⟩; rfl)) | fail "op 2"
            try simp only [Act.put, List.setIfInBounds_toArray, List.set_cons_zero, List.set_cons_succ]
            refine wpAnyJ_take (i := 3) (oi := ?_) (v := ?_) ?_ (by kernel_rfl) ?_ ?_ (by assumption) ?_; rotate_left 2; (focus (simp only [List.getElem?_toArray, List.getElem?_cons_succ, List.getElem?_cons_zero]; rfl)); (focus (exact fun _ _ _ h => h)); first | (focus (refine Or.inl ⟨by rfl, ?_⟩; intro w hSw; (try dsimp only at hSw); (try dsimp only [Array.getD]); go_simp; (try with_reducible rfl))) | (focus (refine Or.inr ⟨by rfl, ?_⟩; rfl)) | fail "op 3"
            try simp only [Act.put, List.setIfInBounds_toArray, List.set_cons_zero, List.set_cons_succ]
            refine wpAnyJ_take (i := 4) (oi := ?_) (v := ?_) ?_ (by kernel_rfl) ?_ ?_ (by assumption) ?_; rotate_left 2; (focus (simp only [List.getElem?_toArray, List.getElem?_cons_succ, List.getElem?_cons_zero]; rfl)); (focus (exact fun _ _ _ h => h)); first | (focus (refine Or.inl ⟨by rfl, ?_⟩; intro w hSw; (try dsimp only at hSw); have c81 := (cell_of_row w p 1 _ _ _ (hSw.blk Hb8.out)).trans rfl; (try dsimp only [Array.getD]); go_simp; (try with_reducible rfl))) | (focus (refine Or.inr ⟨by rfl, ?_⟩; rfl)) | fail "op 4"
            try simp only [Act.put, List.setIfInBounds_toArray, List.set_cons_zero, List.set_cons_succ]
            refine wpAnyJ_take (i := 5) (oi := ?_) (v := ?_) ?_ (by kernel_rfl) ?_ ?_ (by assumption) ?_; rotate_left 2; (focus (simp only [List.getElem?_toArray, List.getElem?_cons_succ, List.getElem?_cons_zero]; rfl)); (focus (exact fun _ _ _ h => h)); first | (focus (refine Or.inl ⟨by rfl, ?_⟩; intro w hSw; (try dsimp only at hSw); (try dsimp only [Array.getD]); go_simp; (try with_reducible rfl))) | (focus (refine Or.inr ⟨by rfl, ?_⟩; rfl)) | fail "op 5"
            try simp only [Act.put, List.setIfInBounds_toArray, List.set_cons_zero, List.set_cons_succ]
            refine wpAnyJ_take (i := 6) (oi := ?_) (v := ?_) ?_ (by kernel_rfl) ?_ ?_ (by assumption) ?_; rotate_left 2; (focus (simp only [List.getElem?_toArray, List.getElem?_cons_succ, List.getElem?_cons_zero]; rfl)); (focus (exact fun _ _ _ h => h)); first | (focus (refine Or.inl ⟨by rfl, ?_⟩; intro w hSw; (try dsimp only at hSw); (try dsimp only [Array.getD]); go_simp; (try with_reducible rfl))) | (focus (refine Or.inr ⟨by rfl, ?_⟩; rfl)) | fail "op 6"
            try simp only [Act.put, List.setIfInBounds_toArray, List.set_cons_zero, List.set_cons_succ]
            refine wpAnyJ_take (i := 7) (oi := ?_) (v := ?_) ?_ (by kernel_rfl) ?_ ?_ (by assumption) ?_; rotate_left 2; (focus (simp only [List.getElem?_toArray, List.getElem?_cons_succ, List.getElem?_cons_zero]; rfl)); (focus (exact fun _ _ _ h => h)); first | (focus (refine Or.inl ⟨by rfl, ?_⟩; intro w hSw; (try dsimp only at hSw); (try dsimp only [Array.getD]); go_simp; (try with_reducible rfl))) | (focus (refine Or.inr ⟨by rfl, ?_⟩; rfl)) | fail "op 7"
            try simp only [Act.put, List.setIfInBounds_toArray, List.set_cons_zero, List.set_cons_succ]
            refine wpAnyJ_take (i := 8) (oi := ?_) (v := ?_) ?_ (by kernel_rfl) ?_ ?_ (by assumption) ?_; rotate_left 2; (focus (simp only [List.getElem?_toArray, List.getElem?_cons_succ, List.getElem?_cons_zero]; rfl)); (focus (exact fun _ _ _ h => h)); first | (focus (refine Or.inl ⟨by rfl, ?_⟩; intro w hSw; (try dsimp only at hSw); have c87 := cell_of_row w A7 7 _ _ _ (hSw.blk B8.out); rw [show (recC x.1 x.2)[7]? = some (.int .i64 x.1.q) from rfl] at c87; (try dsimp only [Array.getD]); go_simp; (try with_reducible rfl))) | (focus (refine Or.inr ⟨by rfl, ?_⟩; rfl)) | fail "op 8"
            try simp only [Act.put, List.setIfInBounds_toArray, List.set_cons_zero, List.set_cons_succ]
            refine wpAnyJ_ready (rs := [9]) (by kernel_rfl) (by simp) (by rfl) ?_
            refine AllReadyJ.cons (o := ?_) ?_ (fun K hK => ?_) AllReadyJ.nil; rotate_left; (focus (simp only [List.getElem?_toArray, List.getElem?_cons_succ, List.getElem?_cons_zero]; rfl))
            go_simp
            go_at_call 20
            refine (Hwi8.out _ hHeld).mono ?_
            rintro e w9 ⟨v9, rfl, ho9, hb9⟩
            have Ho9 := Lib.hid ((own_rdX ho9).mono (Y := fun b => LX p (.slice a7 (L.eraseIdx i).length c7) b ∨ (E b ∨ b = A2)) (fun b hb => by rcases hb with hb | hb | hb; exact Nat.lt_of_lt_of_le (H8.out.lt b hb).2 hHeld.size; rotate_left; (rw [hb]; exact Nat.lt_of_lt_of_le (blk_lt B28.out) hHeld.size); exact Nat.lt_of_lt_of_le (HE.out b hb) (Nat.le_trans T8.out.size hHeld.size)))
            obtain ⟨a9, c9, rfl⟩ := own_slice ho9
            clear ho9
            refine hK.out _ _ (hHeld.tr hb9) (fun hHeld => ?_)
            clear hK K
            try simp only [Act.put, List.setIfInBounds_toArray, List.set_cons_zero, List.set_cons_succ]
            refine wpAnyJ_take (i := 10) (oi := ?_) (v := ?_) ?_ (by kernel_rfl) ?_ ?_ (by assumption) ?_; rotate_left 2; (focus (simp only [List.getElem?_toArray, List.getElem?_cons_succ, List.getElem?_cons_zero]; rfl)); (focus (exact fun _ _ _ h => h)); first | (focus (refine Or.inl ⟨by rfl, ?_⟩; intro w hSw; (try dsimp only at hSw); (try dsimp only [Array.getD]); go_simp; (try with_reducible rfl))) | (focus (refine Or.inr ⟨by rfl, ?_⟩; rfl)) | fail "op 10"
            try simp only [Act.put, List.setIfInBounds_toArray, List.set_cons_zero, List.set_cons_succ]
            refine wpAnyJ_take (i := 11) (oi := ?_) (v := ?_) ?_ (by kernel_rfl) ?_ ?_ (by assumption) ?_; rotate_left 2; (focus (simp only [List.getElem?_toArray, List.getElem?_cons_succ, List.getElem?_cons_zero]; rfl)); (focus (exact fun _ _ _ h => h)); first | (focus (refine Or.inl ⟨by rfl, ?_⟩; intro w hSw; (try dsimp only at hSw); (try dsimp only [Array.getD]); go_simp; (try with_reducible rfl))) | (focus (refine Or.inr ⟨by rfl, ?_⟩; rfl)) | fail "op 11"
            try simp only [Act.put, List.setIfInBounds_toArray, List.set_cons_zero, List.set_cons_succ]
            refine wpAnyJ_tail (i := 12) (o := ?_) (by kernel_rfl) (by decide) ?_ (fun K hK => ?_); rotate_left; (focus (simp only [List.getElem?_toArray, List.getElem?_cons_succ, List.getElem?_cons_zero]; rfl))
            have c81 := (cell_of_row _ p 1 _ _ _ (hHeld.blk Hb8.out)).trans rfl; have f81 := frozen_of_row _ p 1 _ _ (hHeld.blk Hb8.out)
            go_simp
            refine hK.out _ _ ?_
            clear hK K
            try simp only [Act.put, List.setIfInBounds_toArray, List.set_cons_zero, List.set_cons_succ]
            refine wpAny_done (by kernel_rfl) ?_ _
            have h9 := (H8.out.gr' hHeld).setOut Ho9.out
            have gs := grown_set w9 p 1 (.slice a9 (withV out k x.1.q).length c9)
            have hpw := blk_lt Hblk.out
            have b9 := blk_far gs (hHeld.blk B8.out) (by have := HA7.out; omega)
            have b29 := blk_far gs (hHeld.blk B28.out) (by have := EA.out; omega)
            have T9 := Lib.hid ((T8.out.tr (Bt.of hHeld)).tr (h9.2.mono (fun k _ hk => .inl hk)))
            have H9 := Lib.hid h9.1; have B9 := Lib.hid b9; have B29 := Lib.hid b29
            clear h9 gs b9 b29 hHeld hb9 Ho9 H8 T8 B8 B28 Hb8 Hwi8
            generalize w9.setCell ⟨p, 1, none⟩ (.slice a9 (withV out k x.1.q).length c9) = w10 at *
            go_wp2_with (first | (refine wpList_load_row rfl 33 (.tmp 7) rfl A7 rfl _ (recC x.1 x.2) (0, 0) _ B9.out Try.underlying33 rfl info_rec ?_) | (refine wpList_store_blk rfl 33 (.tmp 2) (.tmp 75) rfl A2 (recC x.1 x.2) rfl rfl _ _ B29.out rfl info_rec (one_rec _ _ Hd1.out) (fun w11 b11 g11 s11 => ?_)))
            have h11 : Bt (fun k => k = A2) w10 w11 := Bt.row g11 rfl
            have hpw := blk_lt Hblk.out
            refine bodyPost_ret (results_cell_tmp rfl _ _ A2 _ (recC x.1 x.2) (0, 0) _ rfl b11 Try.underlying33 rfl info_rec) rfl (.inl ⟨k, i, hil, hlt, hnone.out, H4.out, ?_, _, ?_, ?_, HN7.out⟩)
            · rw [HX.out]; rfl
            · rw [HX.out]
              exact (H9.out.bt h11 (fun k e => .inr (.inr e)) (fun e => by have := EA.out; omega) (fun b e z => by have := HM7.out b e; have := HA2.out; have := HA5.out; omega)).wid (fun k hk => .inl (hk.imp id .inl))
            · exact T9.out.new g11 (by rw [EA.out]; exact Nat.le_refl _)
        · rw [decide_eq_false hd] at hdu
          have Hdu2 := Lib.hid hdu
          have hnone' := Lib.hid (show ∀ j : Nat, j < k + 1 → rnextOf out (recsOf L) j = none from fun j hj => by
            by_cases e : j = k
            · subst e; exact h4
            · exact hnone.out j (by omega))
          clear hdu hd h4 hnone
          go_wp2_with (first | (go_at_call 19; refine (Hat2.out _ Gw.out).mono ?_; rintro e w1 ⟨rfl, hb⟩; have c2 := (cell_of_row w1 p 2 _ _ _ ((Gw.out.tr hb).blk Hblk.out)).trans rfl; have hR1 := Lib.hid (rangeAt_gr hb Hrg.out)) | (go_at_call 45; refine (Hfd2.out _ (Gw.out.tr hb)).mono ?_; rintro e w2 ⟨rfl, rfl⟩) | (refine wpList_load_mid rfl 33 (.tmp 31) rfl bg (og + i * 9) rfl (recL x) _ hR1.out Try.underlying33 rfl info_rec ?_) | (go_at_call 46; refine (Hdu2.out _ (Gw.out.tr hb)).mono ?_; rintro e w3 ⟨rfl, hb3⟩))
          go_roundw
          case rel => exact ⟨k + 1, by omega, by go_num, (hg.tr hb).tr hb3, hnone'⟩
          case measure => simp [intOf]; omega
    · obtain rfl : k = 8 := by omega
      have hlt' : ¬ (8 : Int) < 8 := by omega
      have B2 := Lib.hid (hg.blk B0.out)
      have rz : recZ = .agg (recC noRec (.slice none 0 0)) := rfl
      go_wp2_with (first | (refine wpList_store_blk rfl 33 (.tmp 2) (.tmp 76) rfl A2 (recC noRec (.slice none 0 0)) rfl rfl _ _ B2.out rfl info_rec (one_rec _ _ rfl) (fun w7 b7 g7 s7 => ?_)))
      exact bodyPost_ret (results_cell_tmp rfl _ _ A2 _ (recC noRec (.slice none 0 0)) (0, 0) _ rfl b7 Try.underlying33 rfl info_rec) rfl (.inr ⟨hnone.out, rfl, gr_new (G0.out.tr hg) g7 (by rw [EA.out]; exact Nat.le_refl _)⟩)
end Go.Proofs.Ytnneebdcaefgoaa

/- The reference's buffer: Offer. -/
import Derived.Test.YtnneebdcaefgoaaCcA
namespace Go.Proofs.Ytnneebdcaefgoaa
open Go.RowKit Go.Maps

/-- Behind an append: the list's value is stored in the buffer. -/
theorem RefX.snoc {E : Nat → Prop} {w w6 w7 : World} {p N : Nat} {most : Int} {out : List Int} {v v' : Value} {L L' : List (Rec × Value)} (h : RefE E w p N most out v L) (hg : Gr w w6) (hbt7 : Bt (fun b => v.ownBlock = some b) w6 w7)
    (hown : w7.ownsRow N 33 9 v' L'.length (encR L')) (hat : v'.ownBlock = v.ownBlock ∨ ∀ b, v'.ownBlock = some b → w6.heap.size ≤ b) (hx : ∀ x ∈ L', rdX (fun k => LX p v k ∨ E k) w x.2 x.1.d) :
    RefE E (w7.setCell ⟨p, 2, none⟩ v') p N most out v' L' ∧ Bt (LX p v) w (w7.setCell ⟨p, 2, none⟩ v') ∧ (∀ b, v'.ownBlock = some b → v.ownBlock = some b ∨ w.heap.size ≤ b) := by
  obtain ⟨ov, hblk, hov⟩ := h.blk
  have hp6 := blk_lt (hg.blk hblk)
  have hp7 := (hbt7.block p hp6 h.px).trans (hg.blk hblk)
  have hb8 : Bt (fun b => b = p) w7 (w7.setCell ⟨p, 2, none⟩ v') := Bt.row (grown_set w7 p 2 _) rfl
  have hb68 : Bt (fun k => LX p v k ∨ E k) w6 (w7.setCell ⟨p, 2, none⟩ v') := (hbt7.mono (fun k _ hk => .inl (.inr hk))).tr (hb8.mono (fun k _ hk => .inl (.inl hk)))
  have hb68' : Bt (LX p v) w6 (w7.setCell ⟨p, 2, none⟩ v') := (hbt7.mono (fun k _ hk => .inr hk)).tr (hb8.mono (fun k _ hk => .inl hk))
  have hpx : v'.ownBlock ≠ some p := fun e => by
    rcases hat with h1 | h1
    · exact h.px (by rw [← h1]; exact e)
    · have := h1 p e; omega
  have hsub : ∀ k, LX p v' k ∨ E k → (LX p v k ∨ E k) ∨ w6.heap.size ≤ k := fun k hk => by
    rcases hk with (hk | hk) | hk
    · exact .inl (.inl (.inl hk))
    · rcases hat with h1 | h1
      · exact .inl (.inl (.inr (by rw [← h1]; exact hk)))
      · exact .inr (h1 k hk)
    · exact .inl (.inr hk)
  have dep : ∀ (d : Value) (l : List Int), rdX (fun k => LX p v k ∨ E k) w d l → rdX (fun k => LX p v' k ∨ E k) (w7.setCell ⟨p, 2, none⟩ v') d l := fun d l hd =>
    (((hd.gr hg).wid (Y := fun b => (LX p v b ∨ E b) ∨ w6.heap.size ≤ b) (fun k hk => hk)).bt hb68 (fun k hk => .inl hk)).mono hsub
  refine ⟨⟨⟨ov, by rw [heap_setCell_same w7 p 2 _ _ _ hp7]; rfl, dep _ _ hov⟩, own_bt hown hb8 (fun k e z => hpx (by rw [e, z])), hpx, h.pN, fun y hy => dep _ _ (hx y hy)⟩, (Bt.of hg).tr hb68', fun b hb => ?_⟩
  rcases hat with h1 | h1
  · exact .inl (by rw [← h1]; exact hb)
  · exact .inr (by have := hg.size; have := h1 b hb; omega)
def offR (most : Int) (out : List Int) (l : List Rec) (r : Rec) : Int := if ¬ RecOk r then 3 else if r.q ≤ atV out r.st ∨ 0 ≤ findI l r.st r.q then 1 else if most ≤ l.length ∧ ¬ Due out r then 2 else 0
def ROfferPost (E : Nat → Prop) (w : World) (p N : Nat) (most : Int) (out : List Int) (v : Value) (L : List (Rec × Value)) (x : Rec × Value) (e : Ending) (w' : World) : Prop :=
  e = .returned (.int .i64 (offR most out (recsOf L) x.1)) ∧ ∃ v', RefE E w' p N most out v' (if offR most out (recsOf L) x.1 = 0 then L ++ [x] else L) ∧ Bt (LX p v) w w' ∧ (∀ b, v'.ownBlock = some b → v.ownBlock = some b ∨ w.heap.size ≤ b)
theorem roffer_same {E : Nat → Prop} {w w' : World} {p N : Nat} {most : Int} {out : List Int} {v : Value} {L : List (Rec × Value)} {x : Rec × Value} (h : RefE E w p N most out v L) (hg : Gr w w') {n : Int} (hn : offR most out (recsOf L) x.1 = n) (h0 : n ≠ 0) : ROfferPost E w p N most out v L x (.returned (.int .i64 n)) w' :=
  ⟨by rw [hn], v, by rw [if_neg (by rw [hn]; exact h0)]; exact h.gr' hg, Bt.of hg, fun b hb => .inl hb⟩
set_option maxRecDepth 100000 in
set_option maxHeartbeats 4000000 in
theorem roffer_bad (w : World) (p : Nat) (r : Rec) (d : Value) (hd : rdRow w 1 d r.d.length (encI r.d)) (hk : r.d.length ≤ 1000000) (hR : ¬ RecOk r) :
    Calls Try.prog 26 #[.pointer (some ⟨p, 0, none⟩), recV r d] w fun e w' => e = .returned (.int .i64 3) ∧ Gr w w' := by
  have Hck := Lib.hid (fun W hg => rcheck6_calls r d W (hd.gr hg) hk)
  rw [show errOf (decide (RecOk r)) = 1 by rw [decide_eq_false hR]; rfl] at Hck
  clear hd hR
  rw [recV_agg] at Hck ⊢
  unfold recC at Hck ⊢
  go_enter Try.func26, Try.ntmps26
  go_wp2_with fail
  obtain ⟨W0, e0, g0, b0, s0⟩ := al_out w (.cells (recC r d) 33)
  unfold recC at e0
  rw [e0]
  have B0 := Lib.hid b0; have G0 := Lib.hid g0
  clear b0 g0 s0 e0
  go_wp2_with (first | (refine wpList_load_row rfl 33 (.tmp 3) rfl w.heap.size rfl _ (recC r d) (0, 0) _ B0.out Try.underlying33 rfl info_rec ?_) | (go_at_call 47; refine (Hck.out _ (G0.out)).mono ?_; rintro e w1 ⟨rfl, hb⟩))
  go_ret
  exact ⟨rfl, G0.out.tr hb⟩
set_option maxRecDepth 100000 in
set_option maxHeartbeats 8000000 in
theorem roffer_good (E : Nat → Prop) (w : World) (p N : Nat) (most : Int) (out : List Int) (v : Value) (L : List (Rec × Value)) (h : RefE E w p N most out v L) (ho : out.length ≤ 1000000) (hn : L.length ≤ 1000) (r : Rec) (d : Value) (hdX : rdX (fun k => LX p v k ∨ E k) w d r.d) (hk : r.d.length ≤ 1000000) (hR : RecOk r) (hE : ∀ k, E k → k < w.heap.size) :
    Calls Try.prog 26 #[.pointer (some ⟨p, 0, none⟩), recV r d] w (ROfferPost E w p N most out v L (r, d)) := by
  have hd := hdX.1
  have Hck := Lib.hid (fun W hg => rcheck6_calls r d W (hd.gr hg) hk)
  rw [show errOf (decide (RecOk r)) = 0 by rw [decide_eq_true hR]; rfl] at Hck
  have HL := Lib.hid h; have HdX := Lib.hid hdX; have HR := Lib.hid hR; have HE := Lib.hid hE
  obtain ⟨ov, hblk, hr⟩ := h.blk
  have Hat := Lib.hid (fun W hg => rat_calls ov out r.st W (hr.1.gr hg) ho)
  have Hfd := Lib.hid (fun W (hg : Gr w W) => find_calls W p N most out v L (h.gr' hg) hn r.st r.q)
  have Hdu := Lib.hid (fun W (hg : Gr w W) => rdue_calls W p N most out v L (h.gr' hg) ho r d (hd.gr hg) hk)
  have Hblk := Lib.hid hblk
  obtain ⟨a, c, rfl, hc⟩ := h.form
  obtain ⟨⟨_, ad, cd, rfl, _⟩, _⟩ := id hdX
  have Hd1 := Lib.hid (rdX_one hdX)
  have HoR := Lib.hid (show offR most out (recsOf L) r = if r.q ≤ atV out r.st ∨ 0 ≤ findI (recsOf L) r.st r.q then 1 else if most ≤ L.length ∧ ¬ Due out r then 2 else 0 by unfold offR; rw [if_neg (fun z => z hR), recsOf_len])
  clear hd hdX hR h hc hblk hr hE
  rw [recV_agg] at Hck Hdu ⊢
  unfold recC at Hck Hdu ⊢
  obtain ⟨aa, haa⟩ : ∃ aa, atV out r.st = aa := ⟨_, rfl⟩
  obtain ⟨fi, hfi⟩ : ∃ fi, findI (recsOf L) r.st r.q = fi := ⟨_, rfl⟩
  rw [haa] at Hat HoR
  rw [hfi] at Hfd HoR
  clear haa hfi
  by_cases h1 : r.q ≤ aa
  · have hn1 := HoR.out
    rw [if_pos (.inl h1)] at hn1
    have Hn1 := Lib.hid hn1
    clear hn1
    go_enter Try.func26, Try.ntmps26
    go_wp2_with fail
    obtain ⟨W0, e0, g0, b0, s0⟩ := al_out w (.cells (recC r (.slice ad r.d.length cd)) 33)
    unfold recC at e0
    rw [e0]
    obtain ⟨A3, eA3⟩ : ∃ A, w.heap.size = A := ⟨_, rfl⟩
    rw [eA3] at b0 ⊢
    have B0 := Lib.hid b0; have G0 := Lib.hid g0; have EA := Lib.hid eA3
    clear b0 g0 s0 e0 eA3
    go_wp2_with (first | (refine wpList_load_row rfl 33 (.tmp 3) rfl A3 rfl _ (recC r (.slice ad r.d.length cd)) (0, 0) _ B0.out Try.underlying33 rfl info_rec ?_) | (go_at_call 47; refine (Hck.out _ (G0.out)).mono ?_; rintro e w1 ⟨rfl, hb⟩; have G1 := Lib.hid (G0.out.tr hb); have B1 := Lib.hid (hb.blk B0.out); clear hb))
    have cb := fun g : GrW w1 => (cell_of_row _ p 1 _ _ _ ((G1.out.tr g.h).blk Hblk.out)).trans rfl
    have cw6 := fun g : GrW w1 => (cell_of_row _ A3 6 _ _ _ (g.h.blk B1.out)).trans (show (recC r (.slice ad r.d.length cd))[6]? = some (.int .i64 r.st) from rfl)
    have cw7 := fun g : GrW w1 => (cell_of_row _ A3 7 _ _ _ (g.h.blk B1.out)).trans (show (recC r (.slice ad r.d.length cd))[7]? = some (.int .i64 r.q) from rfl)
    have h1' : r.q ≤ aa := h1
    (refine region_gr (by kernel_rfl) (by kernel_rfl) ?_; (repeat (go_big_quiet_step ((first | (go_at_call 19; rename_i g9; refine (Hat.out _ (G1.out.tr g9.h)).mono ?_; rintro e w2 ⟨rfl, hb⟩; exact ⟨rfl, ⟨w2, g9.h.tr hb⟩, rfl⟩) | (go_at_call 45; rename_i g9; refine (Hfd.out _ (G1.out.tr g9.h)).mono ?_; rintro e w2 ⟨rfl, rfl⟩; exact ⟨rfl, g9, rfl⟩))))); refine wpQuiet_nil ?_; intro wq hw9; obtain ⟨g9, e9⟩ := hw9; have hwq := g9.h; rw [← e9] at hwq; clear e9 g9)
    clear cb cw6 cw7
    have G2 := Lib.hid (G1.out.tr hwq); have B2 := Lib.hid (hwq.blk B1.out)
    clear hwq
    go_wp2_with fail
    go_ret
    exact roffer_same HL.out G2.out Hn1.out (by decide)
  · by_cases h2 : 0 ≤ fi
    · have hn1 := HoR.out
      rw [if_pos (.inr h2)] at hn1
      have Hn1 := Lib.hid hn1
      have H1 := Lib.hid h1
      clear hn1
      go_enter Try.func26, Try.ntmps26
      go_wp2_with fail
      obtain ⟨W0, e0, g0, b0, s0⟩ := al_out w (.cells (recC r (.slice ad r.d.length cd)) 33)
      unfold recC at e0
      rw [e0]
      obtain ⟨A3, eA3⟩ : ∃ A, w.heap.size = A := ⟨_, rfl⟩
      rw [eA3] at b0 ⊢
      have B0 := Lib.hid b0; have G0 := Lib.hid g0; have EA := Lib.hid eA3
      clear b0 g0 s0 e0 eA3
      go_wp2_with (first | (refine wpList_load_row rfl 33 (.tmp 3) rfl A3 rfl _ (recC r (.slice ad r.d.length cd)) (0, 0) _ B0.out Try.underlying33 rfl info_rec ?_) | (go_at_call 47; refine (Hck.out _ (G0.out)).mono ?_; rintro e w1 ⟨rfl, hb⟩; have G1 := Lib.hid (G0.out.tr hb); have B1 := Lib.hid (hb.blk B0.out); clear hb))
      have cb := fun g : GrW w1 => (cell_of_row _ p 1 _ _ _ ((G1.out.tr g.h).blk Hblk.out)).trans rfl
      have cw6 := fun g : GrW w1 => (cell_of_row _ A3 6 _ _ _ (g.h.blk B1.out)).trans (show (recC r (.slice ad r.d.length cd))[6]? = some (.int .i64 r.st) from rfl)
      have cw7 := fun g : GrW w1 => (cell_of_row _ A3 7 _ _ _ (g.h.blk B1.out)).trans (show (recC r (.slice ad r.d.length cd))[7]? = some (.int .i64 r.q) from rfl)
      have h1' : decide (r.q ≤ aa) = false := decide_eq_false (by have := H1.out; omega)
      (refine region_gr (by kernel_rfl) (by kernel_rfl) ?_; (repeat (go_big_quiet_step ((first | (go_at_call 19; rename_i g9; refine (Hat.out _ (G1.out.tr g9.h)).mono ?_; rintro e w2 ⟨rfl, hb⟩; exact ⟨rfl, ⟨w2, g9.h.tr hb⟩, rfl⟩) | (go_at_call 45; rename_i g9; refine (Hfd.out _ (G1.out.tr g9.h)).mono ?_; rintro e w2 ⟨rfl, rfl⟩; exact ⟨rfl, g9, rfl⟩))))); refine wpQuiet_nil ?_; intro wq hw9; obtain ⟨g9, e9⟩ := hw9; have hwq := g9.h; rw [← e9] at hwq; clear e9 g9)
      clear cb cw6 cw7
      have G2 := Lib.hid (G1.out.tr hwq); have B2 := Lib.hid (hwq.blk B1.out)
      clear hwq
      go_wp2_with fail
      go_ret
      exact roffer_same HL.out G2.out Hn1.out (by decide)
    · have hn1 := HoR.out
      rw [if_neg (fun z => z.elim h1 h2)] at hn1
      have Hn1 := Lib.hid hn1
      have H1 := Lib.hid h1; have H2 := Lib.hid h2
      clear hn1
      obtain ⟨du, hdu⟩ : ∃ du, decide (Due out r) = du := ⟨_, rfl⟩
      rw [hdu] at Hdu
      have HDu := Lib.hid hdu
      clear hdu
      by_cases hm : most ≤ (L.length : Int)
      · cases du with
        | false =>
          have hn1 := Hn1.out
          rw [if_pos ⟨hm, of_decide_eq_false HDu.out⟩] at hn1
          have Hn2 := Lib.hid hn1
          have HM := Lib.hid hm
          clear hn1 hm h1 h2
          go_enter Try.func26, Try.ntmps26
          go_wp2_with fail
          obtain ⟨W0, e0, g0, b0, s0⟩ := al_out w (.cells (recC r (.slice ad r.d.length cd)) 33)
          unfold recC at e0
          rw [e0]
          obtain ⟨A3, eA3⟩ : ∃ A, w.heap.size = A := ⟨_, rfl⟩
          rw [eA3] at b0 ⊢
          have B0 := Lib.hid b0; have G0 := Lib.hid g0; have EA := Lib.hid eA3
          clear b0 g0 s0 e0 eA3
          go_wp2_with (first | (refine wpList_load_row rfl 33 (.tmp 3) rfl A3 rfl _ (recC r (.slice ad r.d.length cd)) (0, 0) _ B0.out Try.underlying33 rfl info_rec ?_) | (go_at_call 47; refine (Hck.out _ (G0.out)).mono ?_; rintro e w1 ⟨rfl, hb⟩; have G1 := Lib.hid (G0.out.tr hb); have B1 := Lib.hid (hb.blk B0.out); clear hb))
          have cb := fun g : GrW w1 => (cell_of_row _ p 1 _ _ _ ((G1.out.tr g.h).blk Hblk.out)).trans rfl
          have cw6 := fun g : GrW w1 => (cell_of_row _ A3 6 _ _ _ (g.h.blk B1.out)).trans (show (recC r (.slice ad r.d.length cd))[6]? = some (.int .i64 r.st) from rfl)
          have cw7 := fun g : GrW w1 => (cell_of_row _ A3 7 _ _ _ (g.h.blk B1.out)).trans (show (recC r (.slice ad r.d.length cd))[7]? = some (.int .i64 r.q) from rfl)
          have h1' : decide (r.q ≤ aa) = false := decide_eq_false (by have := H1.out; omega)
          have h2' : decide (0 ≤ fi) = false := decide_eq_false (by have := H2.out; omega)
          (refine region_gr (by kernel_rfl) (by kernel_rfl) ?_; (repeat (go_big_quiet_step ((first | (go_at_call 19; rename_i g9; refine (Hat.out _ (G1.out.tr g9.h)).mono ?_; rintro e w2 ⟨rfl, hb⟩; exact ⟨rfl, ⟨w2, g9.h.tr hb⟩, rfl⟩) | (go_at_call 45; rename_i g9; refine (Hfd.out _ (G1.out.tr g9.h)).mono ?_; rintro e w2 ⟨rfl, rfl⟩; exact ⟨rfl, g9, rfl⟩))))); refine wpQuiet_nil ?_; intro wq hw9; obtain ⟨g9, e9⟩ := hw9; have hwq := g9.h; rw [← e9] at hwq; clear e9 g9)
          clear cb cw6 cw7
          have G2 := Lib.hid (G1.out.tr hwq); have B2 := Lib.hid (hwq.blk B1.out)
          clear hwq
          clear h1' h2'
          go_wp2_with (first | (refine wpList_load_row rfl 33 (.tmp 3) rfl A3 rfl _ (recC r (.slice ad r.d.length cd)) (0, 0) _ B2.out Try.underlying33 rfl info_rec ?_) | (go_at_call 46; refine (Hdu.out _ G2.out).mono ?_; rintro e w3 ⟨rfl, hb⟩; have G3 := Lib.hid (G2.out.tr hb); have B3 := Lib.hid (hb.blk B2.out); clear hb))
          have cb0 := fun g : GrW w3 => (cell_of_row _ p 0 _ _ _ ((G3.out.tr g.h).blk Hblk.out)).trans rfl
          have cb2 := fun g : GrW w3 => (cell_of_row _ p 2 _ _ _ ((G3.out.tr g.h).blk Hblk.out)).trans rfl
          have hm' := HM.out
          (refine region_gr (by kernel_rfl) (by kernel_rfl) ?_; (repeat (go_big_quiet_step ((fail)))); refine wpQuiet_nil ?_; intro wq hw9; obtain ⟨g9, e9⟩ := hw9; have hwq := g9.h; rw [← e9] at hwq; clear e9 g9)
          have G4 := Lib.hid (G3.out.tr hwq)
          clear hwq cb0 cb2
          go_wp2_with fail
          go_ret
          exact roffer_same HL.out G4.out Hn2.out (by decide)
        | true =>
          have hn1 := Hn1.out
          rw [if_neg (fun z => z.2 (of_decide_eq_true HDu.out))] at hn1
          have Hn2 := Lib.hid hn1
          have HM := Lib.hid hm
          clear hn1 hm h1 h2
          go_enter Try.func26, Try.ntmps26
          go_wp2_with fail
          obtain ⟨W0, e0, g0, b0, s0⟩ := al_out w (.cells (recC r (.slice ad r.d.length cd)) 33)
          unfold recC at e0
          rw [e0]
          obtain ⟨A3, eA3⟩ : ∃ A, w.heap.size = A := ⟨_, rfl⟩
          rw [eA3] at b0 ⊢
          have B0 := Lib.hid b0; have G0 := Lib.hid g0; have EA := Lib.hid eA3
          clear b0 g0 s0 e0 eA3
          go_wp2_with (first | (refine wpList_load_row rfl 33 (.tmp 3) rfl A3 rfl _ (recC r (.slice ad r.d.length cd)) (0, 0) _ B0.out Try.underlying33 rfl info_rec ?_) | (go_at_call 47; refine (Hck.out _ (G0.out)).mono ?_; rintro e w1 ⟨rfl, hb⟩; have G1 := Lib.hid (G0.out.tr hb); have B1 := Lib.hid (hb.blk B0.out); clear hb))
          have cb := fun g : GrW w1 => (cell_of_row _ p 1 _ _ _ ((G1.out.tr g.h).blk Hblk.out)).trans rfl
          have cw6 := fun g : GrW w1 => (cell_of_row _ A3 6 _ _ _ (g.h.blk B1.out)).trans (show (recC r (.slice ad r.d.length cd))[6]? = some (.int .i64 r.st) from rfl)
          have cw7 := fun g : GrW w1 => (cell_of_row _ A3 7 _ _ _ (g.h.blk B1.out)).trans (show (recC r (.slice ad r.d.length cd))[7]? = some (.int .i64 r.q) from rfl)
          have h1' : decide (r.q ≤ aa) = false := decide_eq_false (by have := H1.out; omega)
          have h2' : decide (0 ≤ fi) = false := decide_eq_false (by have := H2.out; omega)
          (refine region_gr (by kernel_rfl) (by kernel_rfl) ?_; (repeat (go_big_quiet_step ((first | (go_at_call 19; rename_i g9; refine (Hat.out _ (G1.out.tr g9.h)).mono ?_; rintro e w2 ⟨rfl, hb⟩; exact ⟨rfl, ⟨w2, g9.h.tr hb⟩, rfl⟩) | (go_at_call 45; rename_i g9; refine (Hfd.out _ (G1.out.tr g9.h)).mono ?_; rintro e w2 ⟨rfl, rfl⟩; exact ⟨rfl, g9, rfl⟩))))); refine wpQuiet_nil ?_; intro wq hw9; obtain ⟨g9, e9⟩ := hw9; have hwq := g9.h; rw [← e9] at hwq; clear e9 g9)
          clear cb cw6 cw7
          have G2 := Lib.hid (G1.out.tr hwq); have B2 := Lib.hid (hwq.blk B1.out)
          clear hwq
          clear h1' h2'
          go_wp2_with (first | (refine wpList_load_row rfl 33 (.tmp 3) rfl A3 rfl _ (recC r (.slice ad r.d.length cd)) (0, 0) _ B2.out Try.underlying33 rfl info_rec ?_) | (go_at_call 46; refine (Hdu.out _ G2.out).mono ?_; rintro e w3 ⟨rfl, hb⟩; have G3 := Lib.hid (G2.out.tr hb); have B3 := Lib.hid (hb.blk B2.out); clear hb))
          have cb0 := fun g : GrW w3 => (cell_of_row _ p 0 _ _ _ ((G3.out.tr g.h).blk Hblk.out)).trans rfl
          have cb2 := fun g : GrW w3 => (cell_of_row _ p 2 _ _ _ ((G3.out.tr g.h).blk Hblk.out)).trans rfl
          have hm' := HM.out
          (refine region_gr (by kernel_rfl) (by kernel_rfl) ?_; (repeat (go_big_quiet_step ((fail)))); refine wpQuiet_nil ?_; intro wq hw9; obtain ⟨g9, e9⟩ := hw9; have hwq := g9.h; rw [← e9] at hwq; clear e9 g9)
          have G4 := Lib.hid (G3.out.tr hwq); have B4 := Lib.hid (hwq.blk B3.out)
          clear hwq cb0 cb2
          obtain ⟨w5, rfl⟩ : ∃ w, w = wq := ⟨_, rfl⟩
          have hpA : p ≠ A3 := fun z => by have := blk_lt Hblk.out; rw [EA.out] at this; omega
          have hoA : ∀ b, (Value.slice a L.length c).ownBlock = some b → b ≠ A3 := fun b hb z => by have := (HL.out.own.lt b hb).2; rw [EA.out] at this; omega
          go_wp2_with fail
          refine region_startJ (S := fun w' => Bt (fun b => (Value.slice a L.length c).ownBlock = some b) w5 w') 10 (by kernel_rfl) (by exact Bt.of (Gr.dr Gr.rfl')) (fun wz hz0 hHeld => ?_)
          simp only [List.size_toArray, List.length_cons, List.length_nil, Nat.reduceAdd]
          refine wpAnyJ_take (i := 0) (oi := ?_) (v := ?_) ?_ (by kernel_rfl) ?_ ?_ (by assumption) ?_; rotate_left 2; (focus (simp only [List.getElem?_toArray, List.getElem?_cons_zero]; rfl)); (focus (exact fun _ _ _ h => h)); first | (focus (refine Or.inl ⟨by rfl, ?_⟩; intro w hSw; (try dsimp only at hSw); (try dsimp only [Array.getD]); go_simp; (try with_reducible rfl))) | (focus (refine Or.inr ⟨by rfl, ?_⟩; rfl)) | fail "op 0"
          try simp only [Act.put, List.setIfInBounds_toArray, List.set_cons_zero, List.set_cons_succ]
          refine wpAnyJ_take (i := 1) (oi := ?_) (v := ?_) ?_ (by kernel_rfl) ?_ ?_ (by assumption) ?_; rotate_left 2; (focus (simp only [List.getElem?_toArray, List.getElem?_cons_succ, List.getElem?_cons_zero]; rfl)); (focus (exact fun _ _ _ h => h)); first | (focus (refine Or.inl ⟨by rfl, ?_⟩; intro w hSw; (try dsimp only at hSw); (try dsimp only [Array.getD]); go_simp; (try with_reducible rfl))) | (focus (refine Or.inr ⟨by rfl, ?_⟩; rfl)) | fail "op 1"
          try simp only [Act.put, List.setIfInBounds_toArray, List.set_cons_zero, List.set_cons_succ]
          refine wpAnyJ_take (i := 2) (oi := ?_) (v := ?_) ?_ (by kernel_rfl) ?_ ?_ (by assumption) ?_; rotate_left 2; (focus (simp only [List.getElem?_toArray, List.getElem?_cons_succ, List.getElem?_cons_zero]; rfl)); (focus (exact fun _ _ _ h => h)); first | (focus (refine Or.inl ⟨by rfl, ?_⟩; intro w hSw; (try dsimp only at hSw); (try dsimp only [Array.getD]); go_simp; (try with_reducible rfl))) | (focus (refine Or.inr ⟨by rfl, ?_⟩; rfl)) | fail "op 2"
          try simp only [Act.put, List.setIfInBounds_toArray, List.set_cons_zero, List.set_cons_succ]
          refine wpAnyJ_take (i := 3) (oi := ?_) (v := ?_) ?_ (by kernel_rfl) ?_ ?_ (by assumption) ?_; rotate_left 2; (focus (simp only [List.getElem?_toArray, List.getElem?_cons_succ, List.getElem?_cons_zero]; rfl)); (focus (exact fun _ _ _ h => h)); first | (focus (refine Or.inl ⟨by rfl, ?_⟩; intro w hSw; (try dsimp only at hSw); (try dsimp only [Array.getD]); go_simp; (try with_reducible rfl))) | (focus (refine Or.inr ⟨by rfl, ?_⟩; rfl)) | fail "op 3"
          try simp only [Act.put, List.setIfInBounds_toArray, List.set_cons_zero, List.set_cons_succ]
          refine wpAnyJ_take (i := 4) (oi := ?_) (v := ?_) ?_ (by kernel_rfl) ?_ ?_ (by assumption) ?_; rotate_left 2; (focus (simp only [List.getElem?_toArray, List.getElem?_cons_succ, List.getElem?_cons_zero]; rfl)); (focus (exact fun _ _ _ h => h)); first | (focus (refine Or.inl ⟨by rfl, ?_⟩; intro w hSw; (try dsimp only at hSw); have c2 := (cell_of_row w p 2 _ _ _ ((hSw.block p (blk_lt (G4.out.blk Hblk.out)) HL.out.px).trans (G4.out.blk Hblk.out))).trans rfl; (try dsimp only [Array.getD]); go_simp; (try with_reducible rfl))) | (focus (refine Or.inr ⟨by rfl, ?_⟩; rfl)) | fail "op 4"
          try simp only [Act.put, List.setIfInBounds_toArray, List.set_cons_zero, List.set_cons_succ]
          refine wpAnyJ_take (i := 5) (oi := ?_) (v := ?_) ?_ (by kernel_rfl) ?_ ?_ (by assumption) ?_; rotate_left 2; (focus (simp only [List.getElem?_toArray, List.getElem?_cons_succ, List.getElem?_cons_zero]; rfl)); (focus (exact fun _ _ _ h => h)); first | (focus (refine Or.inl ⟨by rfl, ?_⟩; intro w hSw; (try dsimp only at hSw); refine (exec_load_row 33 (.tmp 3) (by rfl) A3 (by rfl) _ (recC r (.slice ad r.d.length cd)) (0, 0) _ ((hSw.block A3 (blk_lt B4.out) (fun z => hoA _ z rfl)).trans B4.out) Try.underlying33 rfl info_rec).trans ?_; with_reducible rfl)) | (focus (refine Or.inr ⟨by rfl, ?_⟩; rfl)) | fail "op 5"
          try simp only [Act.put, List.setIfInBounds_toArray, List.set_cons_zero, List.set_cons_succ]
          refine wpAnyJ_ready (rs := [6]) (by kernel_rfl) (by simp) (by rfl) ?_
          refine AllReadyJ.cons (o := ?_) ?_ (fun K hK => ?_) AllReadyJ.nil; rotate_left; (focus (simp only [List.getElem?_toArray, List.getElem?_cons_succ, List.getElem?_cons_zero]; rfl))
          rw [if_pos (by rfl)]
          refine wp_lit_rec (.tmp 54) rfl r (.slice ad r.d.length cd) rfl (fun w6 e6 => ?_)
          have hg6 : Gr w5 w6 := by rw [← e6]; exact hz0.tr (Gr.al Gr.rfl' _)
          have hA6 := heap_alloc_new wz (.cells (recC r (.slice ad r.d.length cd)) 33)
          rw [e6] at hA6
          obtain ⟨A6, eA6⟩ : ∃ A, wz.heap.size = A := ⟨_, rfl⟩
          have hlA6 : w5.heap.size ≤ A6 := by rw [← eA6]; exact hz0.size
          rw [eA6] at hA6 ⊢
          refine hK.out _ _ (Bt.of hg6) (fun hHeld => ?_)
          clear hK K
          try simp only [Act.put, List.setIfInBounds_toArray, List.set_cons_zero, List.set_cons_succ]
          refine wpAnyJ_ready (rs := [7]) (by kernel_rfl) (by simp) (by rfl) ?_
          refine AllReadyJ.cons (o := ?_) ?_ (fun K hK => ?_) AllReadyJ.nil; rotate_left; (focus (simp only [List.getElem?_toArray, List.getElem?_cons_succ, List.getElem?_cons_zero]; rfl))
          rw [if_pos (by rfl)]
          refine wp_append_rec (.tmp 53) (.tmp 55) rfl N _ L rfl (own_gr HL.out.own (G4.out.tr hg6)) r ad r.d.length cd A6 rfl hA6 hn (Nat.le_trans (Nat.le_trans HL.out.pN (Nat.le_of_lt (blk_lt Hblk.out))) (G4.out.tr hg6).size) (fun a' c' w7 hown7 hg7 hat7 => ?_)
          have hbt7 : Bt (fun b => (Value.slice a L.length c).ownBlock = some b) w6 w7 := ⟨hg7.os, hg7.tape, hg7.output, hg7.size, fun b hb hne => hg7.block b hb (fun e => hne e.symm)⟩
          refine hK.out _ _ (hHeld.tr hbt7) (fun hHeld => ?_)
          clear hK K
          try simp only [Act.put, List.setIfInBounds_toArray, List.set_cons_zero, List.set_cons_succ]
          refine wpAnyJ_take (i := 8) (oi := ?_) (v := ?_) ?_ (by kernel_rfl) ?_ ?_ (by assumption) ?_; rotate_left 2; (focus (simp only [List.getElem?_toArray, List.getElem?_cons_succ, List.getElem?_cons_zero]; rfl)); (focus (exact fun _ _ _ h => h)); first | (focus (refine Or.inl ⟨by rfl, ?_⟩; intro w hSw; (try dsimp only at hSw); (try dsimp only [Array.getD]); go_simp; (try with_reducible rfl))) | (focus (refine Or.inr ⟨by rfl, ?_⟩; rfl)) | fail "op 8"
          try simp only [Act.put, List.setIfInBounds_toArray, List.set_cons_zero, List.set_cons_succ]
          refine wpAnyJ_take (i := 9) (oi := ?_) (v := ?_) ?_ (by kernel_rfl) ?_ ?_ (by assumption) ?_; rotate_left 2; (focus (simp only [List.getElem?_toArray, List.getElem?_cons_succ, List.getElem?_cons_zero]; rfl)); (focus (exact fun _ _ _ h => h)); first | (focus (refine Or.inl ⟨by rfl, ?_⟩; intro w hSw; (try dsimp only at hSw); (try dsimp only [Array.getD]); go_simp; (try with_reducible rfl))) | (focus (refine Or.inr ⟨by rfl, ?_⟩; rfl)) | fail "op 9"
          try simp only [Act.put, List.setIfInBounds_toArray, List.set_cons_zero, List.set_cons_succ]
          refine wpAnyJ_tail (i := 10) (o := ?_) (by kernel_rfl) (by decide) ?_ (fun K hK => ?_); rotate_left; (focus (simp only [List.getElem?_toArray, List.getElem?_cons_succ, List.getElem?_cons_zero]; rfl))
          have hp7 := (hHeld.block p (blk_lt (G4.out.blk Hblk.out)) HL.out.px).trans (G4.out.blk Hblk.out)
          have c2 := (cell_of_row w7 p 2 _ _ _ hp7).trans rfl
          have f2 := frozen_of_row w7 p 2 _ _ hp7
          go_simp
          refine hK.out _ _ ?_
          clear hK K
          try simp only [Act.put, List.setIfInBounds_toArray, List.set_cons_zero, List.set_cons_succ]
          refine wpAny_done (by kernel_rfl) ?_ _
          have h8 := RefX.snoc (L' := L ++ [(r, .slice ad r.d.length cd)]) HL.out (G4.out.tr hg6) hbt7 (own_cast hown7 (by simp) (encR_snoc L _).symm) (hat7.imp id (fun e b hb => by rw [e] at hb; injection hb with hb; omega)) (fun x hx => (List.mem_append.1 hx).elim (HL.out.deps x) (fun z => by rw [List.mem_singleton.1 z]; exact HdX.out))
          generalize w7.setCell ⟨p, 2, none⟩ (Value.slice a' (L.length + 1) c') = w8 at *
          have H8 := Lib.hid h8
          clear h8 hown7 hat7 hg7 hbt7 hA6 hlA6 e6 hHeld
          go_wp2_with fail
          go_ret
          exact ⟨by rw [Hn2.out]; rfl, _, by rw [if_pos Hn2.out]; exact H8.out.1, H8.out.2.1, H8.out.2.2⟩
      · have hn1 := Hn1.out
        rw [if_neg (fun z => hm z.1)] at hn1
        have Hn2 := Lib.hid hn1
        have HM := Lib.hid hm
        clear hn1 hm h1 h2
        go_enter Try.func26, Try.ntmps26
        go_wp2_with fail
        obtain ⟨W0, e0, g0, b0, s0⟩ := al_out w (.cells (recC r (.slice ad r.d.length cd)) 33)
        unfold recC at e0
        rw [e0]
        obtain ⟨A3, eA3⟩ : ∃ A, w.heap.size = A := ⟨_, rfl⟩
        rw [eA3] at b0 ⊢
        have B0 := Lib.hid b0; have G0 := Lib.hid g0; have EA := Lib.hid eA3
        clear b0 g0 s0 e0 eA3
        go_wp2_with (first | (refine wpList_load_row rfl 33 (.tmp 3) rfl A3 rfl _ (recC r (.slice ad r.d.length cd)) (0, 0) _ B0.out Try.underlying33 rfl info_rec ?_) | (go_at_call 47; refine (Hck.out _ (G0.out)).mono ?_; rintro e w1 ⟨rfl, hb⟩; have G1 := Lib.hid (G0.out.tr hb); have B1 := Lib.hid (hb.blk B0.out); clear hb))
        have cb := fun g : GrW w1 => (cell_of_row _ p 1 _ _ _ ((G1.out.tr g.h).blk Hblk.out)).trans rfl
        have cw6 := fun g : GrW w1 => (cell_of_row _ A3 6 _ _ _ (g.h.blk B1.out)).trans (show (recC r (.slice ad r.d.length cd))[6]? = some (.int .i64 r.st) from rfl)
        have cw7 := fun g : GrW w1 => (cell_of_row _ A3 7 _ _ _ (g.h.blk B1.out)).trans (show (recC r (.slice ad r.d.length cd))[7]? = some (.int .i64 r.q) from rfl)
        have h1' : decide (r.q ≤ aa) = false := decide_eq_false (by have := H1.out; omega)
        have h2' : decide (0 ≤ fi) = false := decide_eq_false (by have := H2.out; omega)
        (refine region_gr (by kernel_rfl) (by kernel_rfl) ?_; (repeat (go_big_quiet_step ((first | (go_at_call 19; rename_i g9; refine (Hat.out _ (G1.out.tr g9.h)).mono ?_; rintro e w2 ⟨rfl, hb⟩; exact ⟨rfl, ⟨w2, g9.h.tr hb⟩, rfl⟩) | (go_at_call 45; rename_i g9; refine (Hfd.out _ (G1.out.tr g9.h)).mono ?_; rintro e w2 ⟨rfl, rfl⟩; exact ⟨rfl, g9, rfl⟩))))); refine wpQuiet_nil ?_; intro wq hw9; obtain ⟨g9, e9⟩ := hw9; have hwq := g9.h; rw [← e9] at hwq; clear e9 g9)
        clear cb cw6 cw7
        have G2 := Lib.hid (G1.out.tr hwq); have B2 := Lib.hid (hwq.blk B1.out)
        clear hwq
        clear h1' h2'
        go_wp2_with (first | (refine wpList_load_row rfl 33 (.tmp 3) rfl A3 rfl _ (recC r (.slice ad r.d.length cd)) (0, 0) _ B2.out Try.underlying33 rfl info_rec ?_) | (go_at_call 46; refine (Hdu.out _ G2.out).mono ?_; rintro e w3 ⟨rfl, hb⟩; have G3 := Lib.hid (G2.out.tr hb); have B3 := Lib.hid (hb.blk B2.out); clear hb))
        have cb0 := fun g : GrW w3 => (cell_of_row _ p 0 _ _ _ ((G3.out.tr g.h).blk Hblk.out)).trans rfl
        have cb2 := fun g : GrW w3 => (cell_of_row _ p 2 _ _ _ ((G3.out.tr g.h).blk Hblk.out)).trans rfl
        have hm' : decide (most ≤ (L.length : Int)) = false := decide_eq_false (by have := HM.out; omega)
        (refine region_gr (by kernel_rfl) (by kernel_rfl) ?_; (repeat (go_big_quiet_step ((fail)))); refine wpQuiet_nil ?_; intro wq hw9; obtain ⟨g9, e9⟩ := hw9; have hwq := g9.h; rw [← e9] at hwq; clear e9 g9)
        have G4 := Lib.hid (G3.out.tr hwq); have B4 := Lib.hid (hwq.blk B3.out)
        clear hwq cb0 cb2
        obtain ⟨w5, rfl⟩ : ∃ w, w = wq := ⟨_, rfl⟩
        have hpA : p ≠ A3 := fun z => by have := blk_lt Hblk.out; rw [EA.out] at this; omega
        have hoA : ∀ b, (Value.slice a L.length c).ownBlock = some b → b ≠ A3 := fun b hb z => by have := (HL.out.own.lt b hb).2; rw [EA.out] at this; omega
        go_wp2_with fail
        refine region_startJ (S := fun w' => Bt (fun b => (Value.slice a L.length c).ownBlock = some b) w5 w') 10 (by kernel_rfl) (by exact Bt.of (Gr.dr Gr.rfl')) (fun wz hz0 hHeld => ?_)
        simp only [List.size_toArray, List.length_cons, List.length_nil, Nat.reduceAdd]
        refine wpAnyJ_take (i := 0) (oi := ?_) (v := ?_) ?_ (by kernel_rfl) ?_ ?_ (by assumption) ?_; rotate_left 2; (focus (simp only [List.getElem?_toArray, List.getElem?_cons_zero]; rfl)); (focus (exact fun _ _ _ h => h)); first | (focus (refine Or.inl ⟨by rfl, ?_⟩; intro w hSw; (try dsimp only at hSw); (try dsimp only [Array.getD]); go_simp; (try with_reducible rfl))) | (focus (refine Or.inr ⟨by rfl, ?_⟩; rfl)) | fail "op 0"
        try simp only [Act.put, List.setIfInBounds_toArray, List.set_cons_zero, List.set_cons_succ]
        refine wpAnyJ_take (i := 1) (oi := ?_) (v := ?_) ?_ (by kernel_rfl) ?_ ?_ (by assumption) ?_; rotate_left 2; (focus (simp only [List.getElem?_toArray, List.getElem?_cons_succ, List.getElem?_cons_zero]; rfl)); (focus (exact fun _ _ _ h => h)); first | (focus (refine Or.inl ⟨by rfl, ?_⟩; intro w hSw; (try dsimp only at hSw); (try dsimp only [Array.getD]); go_simp; (try with_reducible rfl))) | (focus (refine Or.inr ⟨by rfl, ?_⟩; rfl)) | fail "op 1"
        try simp only [Act.put, List.setIfInBounds_toArray, List.set_cons_zero, List.set_cons_succ]
        refine wpAnyJ_take (i := 2) (oi := ?_) (v := ?_) ?_ (by kernel_rfl) ?_ ?_ (by assumption) ?_; rotate_left 2; (focus (simp only [List.getElem?_toArray, List.getElem?_cons_succ, List.getElem?_cons_zero]; rfl)); (focus (exact fun _ _ _ h => h)); first | (focus (refine Or.inl ⟨by rfl, ?_⟩; intro w hSw; (try dsimp only at hSw); (try dsimp only [Array.getD]); go_simp; (try with_reducible rfl))) | (focus (refine Or.inr ⟨by rfl, ?_⟩; rfl)) | fail "op 2"
        try simp only [Act.put, List.setIfInBounds_toArray, List.set_cons_zero, List.set_cons_succ]
        refine wpAnyJ_take (i := 3) (oi := ?_) (v := ?_) ?_ (by kernel_rfl) ?_ ?_ (by assumption) ?_; rotate_left 2; (focus (simp only [List.getElem?_toArray, List.getElem?_cons_succ, List.getElem?_cons_zero]; rfl)); (focus (exact fun _ _ _ h => h)); first | (focus (refine Or.inl ⟨by rfl, ?_⟩; intro w hSw; (try dsimp only at hSw); (try dsimp only [Array.getD]); go_simp; (try with_reducible rfl))) | (focus (refine Or.inr ⟨by rfl, ?_⟩; rfl)) | fail "op 3"
        try simp only [Act.put, List.setIfInBounds_toArray, List.set_cons_zero, List.set_cons_succ]
        refine wpAnyJ_take (i := 4) (oi := ?_) (v := ?_) ?_ (by kernel_rfl) ?_ ?_ (by assumption) ?_; rotate_left 2; (focus (simp only [List.getElem?_toArray, List.getElem?_cons_succ, List.getElem?_cons_zero]; rfl)); (focus (exact fun _ _ _ h => h)); first | (focus (refine Or.inl ⟨by rfl, ?_⟩; intro w hSw; (try dsimp only at hSw); have c2 := (cell_of_row w p 2 _ _ _ ((hSw.block p (blk_lt (G4.out.blk Hblk.out)) HL.out.px).trans (G4.out.blk Hblk.out))).trans rfl; (try dsimp only [Array.getD]); go_simp; (try with_reducible rfl))) | (focus (refine Or.inr ⟨by rfl, ?_⟩; rfl)) | fail "op 4"
        try simp only [Act.put, List.setIfInBounds_toArray, List.set_cons_zero, List.set_cons_succ]
        refine wpAnyJ_take (i := 5) (oi := ?_) (v := ?_) ?_ (by kernel_rfl) ?_ ?_ (by assumption) ?_; rotate_left 2; (focus (simp only [List.getElem?_toArray, List.getElem?_cons_succ, List.getElem?_cons_zero]; rfl)); (focus (exact fun _ _ _ h => h)); first | (focus (refine Or.inl ⟨by rfl, ?_⟩; intro w hSw; (try dsimp only at hSw); refine (exec_load_row 33 (.tmp 3) (by rfl) A3 (by rfl) _ (recC r (.slice ad r.d.length cd)) (0, 0) _ ((hSw.block A3 (blk_lt B4.out) (fun z => hoA _ z rfl)).trans B4.out) Try.underlying33 rfl info_rec).trans ?_; with_reducible rfl)) | (focus (refine Or.inr ⟨by rfl, ?_⟩; rfl)) | fail "op 5"
        try simp only [Act.put, List.setIfInBounds_toArray, List.set_cons_zero, List.set_cons_succ]
        refine wpAnyJ_ready (rs := [6]) (by kernel_rfl) (by simp) (by rfl) ?_
        refine AllReadyJ.cons (o := ?_) ?_ (fun K hK => ?_) AllReadyJ.nil; rotate_left; (focus (simp only [List.getElem?_toArray, List.getElem?_cons_succ, List.getElem?_cons_zero]; rfl))
        rw [if_pos (by rfl)]
        refine wp_lit_rec (.tmp 54) rfl r (.slice ad r.d.length cd) rfl (fun w6 e6 => ?_)
        have hg6 : Gr w5 w6 := by rw [← e6]; exact hz0.tr (Gr.al Gr.rfl' _)
        have hA6 := heap_alloc_new wz (.cells (recC r (.slice ad r.d.length cd)) 33)
        rw [e6] at hA6
        obtain ⟨A6, eA6⟩ : ∃ A, wz.heap.size = A := ⟨_, rfl⟩
        have hlA6 : w5.heap.size ≤ A6 := by rw [← eA6]; exact hz0.size
        rw [eA6] at hA6 ⊢
        refine hK.out _ _ (Bt.of hg6) (fun hHeld => ?_)
        clear hK K
        try simp only [Act.put, List.setIfInBounds_toArray, List.set_cons_zero, List.set_cons_succ]
        refine wpAnyJ_ready (rs := [7]) (by kernel_rfl) (by simp) (by rfl) ?_
        refine AllReadyJ.cons (o := ?_) ?_ (fun K hK => ?_) AllReadyJ.nil; rotate_left; (focus (simp only [List.getElem?_toArray, List.getElem?_cons_succ, List.getElem?_cons_zero]; rfl))
        rw [if_pos (by rfl)]
        refine wp_append_rec (.tmp 53) (.tmp 55) rfl N _ L rfl (own_gr HL.out.own (G4.out.tr hg6)) r ad r.d.length cd A6 rfl hA6 hn (Nat.le_trans (Nat.le_trans HL.out.pN (Nat.le_of_lt (blk_lt Hblk.out))) (G4.out.tr hg6).size) (fun a' c' w7 hown7 hg7 hat7 => ?_)
        have hbt7 : Bt (fun b => (Value.slice a L.length c).ownBlock = some b) w6 w7 := ⟨hg7.os, hg7.tape, hg7.output, hg7.size, fun b hb hne => hg7.block b hb (fun e => hne e.symm)⟩
        refine hK.out _ _ (hHeld.tr hbt7) (fun hHeld => ?_)
        clear hK K
        try simp only [Act.put, List.setIfInBounds_toArray, List.set_cons_zero, List.set_cons_succ]
        refine wpAnyJ_take (i := 8) (oi := ?_) (v := ?_) ?_ (by kernel_rfl) ?_ ?_ (by assumption) ?_; rotate_left 2; (focus (simp only [List.getElem?_toArray, List.getElem?_cons_succ, List.getElem?_cons_zero]; rfl)); (focus (exact fun _ _ _ h => h)); first | (focus (refine Or.inl ⟨by rfl, ?_⟩; intro w hSw; (try dsimp only at hSw); (try dsimp only [Array.getD]); go_simp; (try with_reducible rfl))) | (focus (refine Or.inr ⟨by rfl, ?_⟩; rfl)) | fail "op 8"
        try simp only [Act.put, List.setIfInBounds_toArray, List.set_cons_zero, List.set_cons_succ]
        refine wpAnyJ_take (i := 9) (oi := ?_) (v := ?_) ?_ (by kernel_rfl) ?_ ?_ (by assumption) ?_; rotate_left 2; (focus (simp only [List.getElem?_toArray, List.getElem?_cons_succ, List.getElem?_cons_zero]; rfl)); (focus (exact fun _ _ _ h => h)); first | (focus (refine Or.inl ⟨by rfl, ?_⟩; intro w hSw; (try dsimp only at hSw); (try dsimp only [Array.getD]); go_simp; (try with_reducible rfl))) | (focus (refine Or.inr ⟨by rfl, ?_⟩; rfl)) | fail "op 9"
        try simp only [Act.put, List.setIfInBounds_toArray, List.set_cons_zero, List.set_cons_succ]
        refine wpAnyJ_tail (i := 10) (o := ?_) (by kernel_rfl) (by decide) ?_ (fun K hK => ?_); rotate_left; (focus (simp only [List.getElem?_toArray, List.getElem?_cons_succ, List.getElem?_cons_zero]; rfl))
        have hp7 := (hHeld.block p (blk_lt (G4.out.blk Hblk.out)) HL.out.px).trans (G4.out.blk Hblk.out)
        have c2 := (cell_of_row w7 p 2 _ _ _ hp7).trans rfl
        have f2 := frozen_of_row w7 p 2 _ _ hp7
        go_simp
        refine hK.out _ _ ?_
        clear hK K
        try simp only [Act.put, List.setIfInBounds_toArray, List.set_cons_zero, List.set_cons_succ]
        refine wpAny_done (by kernel_rfl) ?_ _
        have h8 := RefX.snoc (L' := L ++ [(r, .slice ad r.d.length cd)]) HL.out (G4.out.tr hg6) hbt7 (own_cast hown7 (by simp) (encR_snoc L _).symm) (hat7.imp id (fun e b hb => by rw [e] at hb; injection hb with hb; omega)) (fun x hx => (List.mem_append.1 hx).elim (HL.out.deps x) (fun z => by rw [List.mem_singleton.1 z]; exact HdX.out))
        generalize w7.setCell ⟨p, 2, none⟩ (Value.slice a' (L.length + 1) c') = w8 at *
        have H8 := Lib.hid h8
        clear h8 hown7 hat7 hg7 hbt7 hA6 hlA6 e6 hHeld
        go_wp2_with fail
        go_ret
        exact ⟨by rw [Hn2.out]; rfl, _, by rw [if_pos Hn2.out]; exact H8.out.1, H8.out.2.1, H8.out.2.2⟩
theorem roffer_calls (E : Nat → Prop) (w : World) (p N : Nat) (most : Int) (out : List Int) (v : Value) (L : List (Rec × Value)) (h : RefE E w p N most out v L) (ho : out.length ≤ 1000000) (hn : L.length ≤ 1000) (r : Rec) (d : Value) (hdX : rdX (fun k => LX p v k ∨ E k) w d r.d) (hk : r.d.length ≤ 1000000) (hE : ∀ k, E k → k < w.heap.size) :
    Calls Try.prog 26 #[.pointer (some ⟨p, 0, none⟩), recV r d] w (ROfferPost E w p N most out v L (r, d)) := by
  by_cases hR : RecOk r
  · exact roffer_good E w p N most out v L h ho hn r d hdX hk hR hE
  · exact (roffer_bad w p r d hdX.1 hk hR).mono fun e w' ⟨he, hg⟩ => by
      subst he
      exact roffer_same h hg (by unfold offR; rw [if_pos hR]) (by decide)
end Go.Proofs.Ytnneebdcaefgoaa

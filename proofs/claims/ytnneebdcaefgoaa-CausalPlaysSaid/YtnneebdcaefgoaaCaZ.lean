/- The buffer: one is taken out; Next. -/
import Derived.Test.YtnneebdcaefgoaaCaY
import Derived.Test.YtnneebdcaefgoaaCaV2
namespace Go.Proofs.Ytnneebdcaefgoaa
open Go.RowKit Go.Maps

/-- What is due of a site. -/
def nextOf (B : Buf) (s : Int) : Option Rec := match B.f s (atV B.out s + 1) with
  | some r => if Due B.out r then some r else none
  | none => none
def delB (B : Buf) (s q : Int) : Buf := { B with f := putF B.f s q none, n := B.n - 1 }
def takeB (B : Buf) (s : Int) (r : Rec) : Buf := { delB B s r.q with out := withV B.out s r.q }
/-- Each is held by its own site and number. -/
def Own (B : Buf) : Prop := ∀ s q r, B.f s q = some r → r.st = s ∧ r.q = q
theorem MapIs.pos {w : World} {b : Nat} {f : Int → Int → Option Value} {n : Nat} (h : MapIs w (some b) f n) {s q : Int} (h1 : I64 s) (h2 : I64 q) (ht : (f s q).isSome = true) : 0 < n := by
  rcases h with ⟨e, _⟩ | ⟨b', D, e, hown, hs, hat⟩
  · cases e
  · have := size_del (k := keyL s q) (hown.tidy lawK)
    rw [(hat s q h1 h2).1, ht, hs] at this
    simp at this
    omega
theorem BufX.take {X : Nat → Prop} {w : World} {p : Nat} {mb : Option Nat} {B : Buf} (h : BufX X w p mb B) (hX : ∀ k, BX p mb k → X k) {s q : Int} (hs : I64 s) (hq : I64 q) {r : Rec} (hf : B.f s q = some r) :
    ∃ b w', mb = some b ∧ (∀ ty, (Builtin.delete_ #[54, 67] ty #[.map mb, kv s q]).run Try.prog w = .ok (.tuple #[]) w') ∧ BufX X w' p mb (delB B s q) ∧ w.grownBy w' (some b) := by
  obtain ⟨h1, h2, ov, fv, h3, h4, h5, h6⟩ := h
  obtain ⟨d, e1, e2⟩ := (h6 s q).2 r hf
  have hsome : (fv s q).isSome = true := by rw [e1]; rfl
  cases mb with
  | none => have := (map_none h5).2 s q; rw [this] at e1; cases e1
  | some b =>
    have hp := h5.pos hs hq hsome
    obtain ⟨n, hn⟩ : ∃ n, B.n = n + 1 := ⟨B.n - 1, by omega⟩
    rw [hn] at h5
    obtain ⟨w', hrun, hm, hg⟩ := h5.drop hs hq hsome 0
    obtain ⟨hb1, hb2⟩ := h2 b rfl
    have hb0 : Bt (BX p (some b)) w w' := Bt.row hg (.inr rfl)
    refine ⟨b, w', rfl, fun ty => hrun, ⟨Nat.lt_of_lt_of_le h1 hb0.size, fun b' e => ?_, ov, setM fv s q none, blk_far hg h3 (fun e => hb2 e.symm), h4.bt hb0 hX, ?_, fun s' q' => ?_⟩, hg⟩
    · injection e with e
      subst e
      exact ⟨Nat.lt_of_lt_of_le hb1 hb0.size, hb2⟩
    · show MapIs w' (some b) _ (B.n - 1)
      rw [hn]; exact hm
    · have hf1 : (delB B s q).f s' q' = if s' = s ∧ q' = q then none else B.f s' q' := rfl
      have hf2 : setM fv s q none s' q' = if s' = s ∧ q' = q then none else fv s' q' := rfl
      rw [hf1, hf2]
      by_cases e : s' = s ∧ q' = q
      · rw [if_pos e, if_pos e]
        exact ⟨fun _ => rfl, fun r' z => (by cases z)⟩
      · rw [if_neg e, if_neg e]
        refine ⟨(h6 s' q').1, fun r' z => ?_⟩
        obtain ⟨d', e1, e2⟩ := (h6 s' q').2 r' z
        exact ⟨d', e1, e2.bt hb0 hX⟩
theorem BufX.setOut {X : Nat → Prop} {w : World} {p : Nat} {mb : Option Nat} {B : Buf} (h : BufX X w p mb B) (hX : ∀ k, BX p mb k → X k) {v : Value} {out' : List Int} (hv : rdX X w v out') : BufX X (w.setCell ⟨p, 1, none⟩ v) p mb { B with out := out' } := by
  obtain ⟨h1, h2, ov, fv, h3, h4, h5, h6⟩ := h
  have hg := grown_set w p 1 v
  have hb0 : Bt (BX p mb) w (w.setCell ⟨p, 1, none⟩ v) := Bt.row hg (.inl rfl)
  refine ⟨Nat.lt_of_lt_of_le h1 hb0.size, fun b e => ⟨Nat.lt_of_lt_of_le (h2 b e).1 hb0.size, (h2 b e).2⟩, v, fv, ?_, hv.bt hb0 hX, h5.kept hg (fun b e z => (h2 b e).2 (by injection z)), fun s q => ⟨(h6 s q).1, fun r e => ?_⟩⟩
  · rw [heap_setCell_same w p 1 _ _ _ h3]; rfl
  · obtain ⟨d, e1, e2⟩ := (h6 s q).2 r e
    exact ⟨d, e1, e2.bt hb0 hX⟩
theorem xcells {X : Nat → Prop} {w : World} {p : Nat} {mb : Option Nat} {B : Buf} (h : BufX X w p mb B) : ∃ ov, w.cell? ⟨p, 1, none⟩ = some ov ∧ rdX X w ov B.out := by
  obtain ⟨_, _, ov, fv, h3, h4, _⟩ := h
  exact ⟨ov, by rw [cell_of_row _ p 1 _ _ _ h3]; rfl, h4⟩
def NextPost (E : Nat → Prop) (w : World) (p : Nat) (mb : Option Nat) (B : Buf) (e : Ending) (w' : World) : Prop :=
  (∃ (k : Nat) (r : Rec) (d : Value), k < 8 ∧ (∀ j : Nat, j < k → nextOf B j = none) ∧ nextOf B k = some r ∧ e = .returned (.tuple #[recV r d, .bool true]) ∧ rdX (fun b => BX p mb b ∨ E b) w' d r.d ∧ BufE E w' p mb (takeB B k r) ∧ Bt (BX p mb) w w') ∨
  ((∀ j : Nat, j < 8 → nextOf B j = none) ∧ e = .returned (.tuple #[recV noRec (.slice none 0 0), .bool false]) ∧ Gr w w')
set_option maxRecDepth 100000 in
set_option maxHeartbeats 4000000 in
theorem next_calls (E : Nat → Prop) (w : World) (p : Nat) (mb : Option Nat) (B : Buf) (h0 : BufE E w p mb B) (hE : ∀ k, E k → k < w.heap.size) (ho : B.out.length ≤ 1000000) (hk : ∀ s q r, B.f s q = some r → r.d.length ≤ 1000000) (hown : Own B) :
    Calls Try.prog 12 #[.pointer (some ⟨p, 0, none⟩)] w (NextPost E w p mb B) := by
  have HE := Lib.hid h0
  have HEl := Lib.hid hE
  have h := h0.at
  clear h0 hE
  have hFst := fun (k : Nat) (hk : k < 8) => first_calls w p mb B HE.out ho (k : Int) (by unfold I64; omega)
  have Hfst := Lib.hid hFst
  have Hdue := Lib.hid (fun W (hg : Gr w W) => due_calls W p mb B (h.gr' hg) ho)
  obtain ⟨ov, c0, c1, c2, hov⟩ := bcells h
  have Hwith := Lib.hid (fun W (hg : Gr w W) (s n : Int) => with_calls ov B.out s n W (hov.1.gr hg) ho)
  have C1 := Lib.hid (fun W (hg : Gr w W) => keepc hg c1); have C2 := Lib.hid (fun W (hg : Gr w W) => keepc hg c2)
  have Hb := Lib.hid h; have Hk := Lib.hid hk; have Hown := Lib.hid hown
  clear hFst c0 c1 c2 hov h hk hown
  go_enter Try.func12, Try.ntmps12
  go_wp2_with fail
  obtain ⟨W0, e0, g0, b0, s0⟩ := al_out w (.cells #[.int .i64 0, .string ⟨#[]⟩, .int .i64 0, .int .i64 0, .int .i64 0, .int .i64 0, .int .i64 0, .int .i64 0, .slice none 0 0] 33)
  rw [e0]
  obtain ⟨A2, eA2⟩ : ∃ A, w.heap.size = A := ⟨_, rfl⟩
  rw [eA2] at b0 s0 ⊢
  have HX := Lib.hid (BufX.wid HE.out (Y := fun k => (BX p mb k ∨ E k) ∨ k = A2) (fun k hk => hk.imp id (fun e => by rw [eA2, e]; exact Nat.le_refl _)))
  have B0 := Lib.hid b0; have G0 := Lib.hid g0; have S0 := Lib.hid s0; have EA := Lib.hid eA2
  clear b0 g0 s0 e0 eA2
  go_wp2_with fail
  go_step3
  go_wp2_with fail
  go_step3
  go_wp2_with fail
  go_loopw [10] (fun i wr => ∃ k : Nat, k ≤ 8 ∧ i = .int .i64 k ∧ Gr W0 wr ∧ Hid (∀ j : Nat, j < k → nextOf B j = none)) (fun i _ => 8 - (intOf i).toNat)
  case atStart => exact ⟨0, by omega, rfl, Gr.rfl', Lib.hid (fun j hj => absurd hj (by omega))⟩
  case round =>
    obtain ⟨k, hk8, rfl, hg, hnone⟩ := hrel
    by_cases hlt : k < 8
    · have hlt' : (k : Int) < 8 := by omega
      obtain ⟨r2, d2, is, hL, hcall0⟩ := Hfst.out k hlt
      have hcall := hcall0 wr (G0.out.tr hg)
      clear hcall0
      have HL := Lib.hid hL; have Hcall := Lib.hid hcall
      obtain ⟨⟨_, a2, n2, ed2, _⟩, _⟩ := hL.2.2.2.2
      clear hL hcall
      subst ed2
      have hannk := atV_nn B.out (k : Int)
      have HA := Lib.hid hannk
      clear hannk
      cases is
      · have hno : nextOf B k = none := by
          unfold nextOf
          have h1 := HL.out.2.1
          cases hq9 : B.f k (atV B.out k + 1) with
          | none => rfl
          | some x => rw [hq9] at h1; cases h1
        have hnone' := Lib.hid (show ∀ j : Nat, j < k + 1 → nextOf B j = none from fun j hj => by
          by_cases e : j = k
          · subst e; exact hno
          · exact hnone.out j (by omega))
        clear hno hnone
        go_wp2_with (first | (go_at_call 38; refine Hcall.out.mono ?_; rintro e w1 ⟨rfl, hb⟩; have hb1 := Lib.hid hb; clear hb) | (refine wpList_store_blk rfl 33 (.tmp 5) (.tmp 17) rfl w1.heap.size (recC r2 (.slice a2 r2.d.length n2)) rfl rfl _ _ (heap_alloc_new w1 _) rfl info_rec (one_rec _ _ rfl) (fun w2 b2 g2 s2 => ?_)))
        have hg2 := gr_new (Gr.al (hg.tr hb1.out) (.cells #[.int .i64 0, .string ⟨#[]⟩, .int .i64 0, .int .i64 0, .int .i64 0, .int .i64 0, .int .i64 0, .int .i64 0, .slice none 0 0] 33)) g2 (hg.tr hb1.out).size
        go_roundw
        case rel => exact ⟨k + 1, by omega, by go_num, hg2, hnone'⟩
        case measure => simp [intOf]; omega
      · have hf : B.f k (atV B.out k + 1) = some r2 := HL.out.2.2.1 rfl
        have hr2 := Hown.out _ _ _ hf
        have Hr2 := Lib.hid hr2
        have Hf := Lib.hid hf
        have hrd := Lib.hid ((HL.out.2.2.2.2.wid (Y := fun k => (BX p mb k ∨ E k) ∨ k = A2) (fun k hk => hk.imp id (fun e => by rw [EA.out, e]; exact Nat.le_refl _))).gr (G0.out.tr hg))
        clear hr2 hf
        by_cases hdue : Due B.out r2
        · have hdd : decide (Due B.out r2) = true := decide_eq_true hdue
          go_wp2_with (first | (go_at_call 38; refine Hcall.out.mono ?_; rintro e w1 ⟨rfl, hb⟩; have hb1 := Lib.hid hb; clear hb) | (refine wpList_store_blk rfl 33 (.tmp 5) (.tmp 17) rfl w1.heap.size (recC r2 (.slice a2 r2.d.length n2)) rfl rfl _ _ (heap_alloc_new w1 _) rfl info_rec (one_rec _ _ rfl) (fun w2 b2 g2 s2 => ?_); have hg2 := Lib.hid (gr_new (Gr.al (hg.tr hb1.out) (.cells #[.int .i64 0, .string ⟨#[]⟩, .int .i64 0, .int .i64 0, .int .i64 0, .int .i64 0, .int .i64 0, .int .i64 0, .slice none 0 0] 33)) g2 (hg.tr hb1.out).size); have Z2 : Gr wr w2 := gr_new (Gr.al hb1.out _) g2 hb1.out.size) | (refine wpList_load_rowg (by rfl) 33 (.tmp 5) (by rfl) w1.heap.size (by rfl) _ (recC r2 (.slice a2 r2.d.length n2)) (0, 0) _ b2 Try.underlying33 rfl info_rec ?_) | (go_at_call 36; refine (Hdue.out w2 (G0.out.tr hg2.out) r2 _ (hrd.out.gr Z2).1 (Hk.out _ _ _ Hf.out)).mono ?_; rintro e w3 ⟨rfl, hb3⟩; rw [hdd]))
          have G3 := Lib.hid (G0.out.tr (hg2.out.tr hb3))
          have hz5 := (hg.tr hb1.out).size
          rw [S0.out] at hz5
          obtain ⟨A5, eA5⟩ : ∃ A, w1.heap.size = A := ⟨_, rfl⟩
          rw [eA5] at b2 hz5 ⊢
          have B5 := Lib.hid (hb3.blk b2); have B2 := Lib.hid ((hg2.out.tr hb3).blk B0.out)
          have hrd3 := Lib.hid (hrd.out.gr (Z2.tr hb3))
          have hq2 : r2.q = atV B.out k + 1 := Hr2.out.2
          have hfq := Hf.out
          rw [← hq2] at hfq
          have Hfq := Lib.hid hfq
          have hqI : I64 r2.q := by have := HA.out; unfold topN at this; unfold I64; omega
          have HqI := Lib.hid hqI; have Hz5 := Lib.hid hz5
          clear hqI hfq hq2 b2 hb3 Z2 hg2 hb1 eA5 hz5 s2 g2 hg
          refine region_startJ (S := fun w' => Gr w3 w') 9 (by kernel_rfl) (by exact Gr.dr Gr.rfl') (fun wz hz0 hHeld => ?_)
          simp only [List.size_toArray, List.length_cons, List.length_nil, Nat.reduceAdd]
          refine wpAnyJ_take (i := 0) (oi := ?_) (v := ?_) ?_ (by kernel_rfl) ?_ ?_ (by assumption) ?_; rotate_left 2; (focus (simp only [List.getElem?_toArray, List.getElem?_cons_zero]; rfl)); (focus (exact fun _ _ _ h => h)); first | (focus (refine Or.inl ⟨by rfl, ?_⟩; intro w hSw; (try dsimp only at hSw); (try dsimp only [Array.getD]); go_simp; (try with_reducible rfl))) | (focus (refine Or.inr ⟨by rfl, ?_⟩; rfl)) | fail "op 0"
          try simp only [Act.put, List.setIfInBounds_toArray, List.set_cons_zero, List.set_cons_succ]
          refine wpAnyJ_take (i := 1) (oi := ?_) (v := ?_) ?_ (by kernel_rfl) ?_ ?_ (by assumption) ?_; rotate_left 2; (focus (simp only [List.getElem?_toArray, List.getElem?_cons_succ, List.getElem?_cons_zero]; rfl)); (focus (exact fun _ _ _ h => h)); first | (focus (refine Or.inl ⟨by rfl, ?_⟩; intro w hSw; (try dsimp only at hSw); (try dsimp only [Array.getD]); go_simp; (try with_reducible rfl))) | (focus (refine Or.inr ⟨by rfl, ?_⟩; rfl)) | fail "op 1"
          try simp only [Act.put, List.setIfInBounds_toArray, List.set_cons_zero, List.set_cons_succ]
          refine wpAnyJ_take (i := 2) (oi := ?_) (v := ?_) ?_ (by kernel_rfl) ?_ ?_ (by assumption) ?_; rotate_left 2; (focus (simp only [List.getElem?_toArray, List.getElem?_cons_succ, List.getElem?_cons_zero]; rfl)); (focus (exact fun _ _ _ h => h)); first | (focus (refine Or.inl ⟨by rfl, ?_⟩; intro w hSw; (try dsimp only at hSw); (try dsimp only [Array.getD]); go_simp; (try with_reducible rfl))) | (focus (refine Or.inr ⟨by rfl, ?_⟩; rfl)) | fail "op 2"
          try simp only [Act.put, List.setIfInBounds_toArray, List.set_cons_zero, List.set_cons_succ]
          refine wpAnyJ_take (i := 3) (oi := ?_) (v := ?_) ?_ (by kernel_rfl) ?_ ?_ (by assumption) ?_; rotate_left 2; (focus (simp only [List.getElem?_toArray, List.getElem?_cons_succ, List.getElem?_cons_zero]; rfl)); (focus (exact fun _ _ _ h => h)); first | (focus (refine Or.inl ⟨by rfl, ?_⟩; intro w hSw; (try dsimp only at hSw); have c2 := C2.out w (G3.out.tr hSw); (try dsimp only [Array.getD]); go_simp; (try with_reducible rfl))) | (focus (refine Or.inr ⟨by rfl, ?_⟩; rfl)) | fail "op 3"
          try simp only [Act.put, List.setIfInBounds_toArray, List.set_cons_zero, List.set_cons_succ]
          refine wpAnyJ_take (i := 4) (oi := ?_) (v := ?_) ?_ (by kernel_rfl) ?_ ?_ (by assumption) ?_; rotate_left 2; (focus (simp only [List.getElem?_toArray, List.getElem?_cons_succ, List.getElem?_cons_zero]; rfl)); (focus (exact fun _ _ _ h => h)); first | (focus (refine Or.inl ⟨by rfl, ?_⟩; intro w hSw; (try dsimp only at hSw); (try dsimp only [Array.getD]); go_simp; (try with_reducible rfl))) | (focus (refine Or.inr ⟨by rfl, ?_⟩; rfl)) | fail "op 4"
          try simp only [Act.put, List.setIfInBounds_toArray, List.set_cons_zero, List.set_cons_succ]
          refine wpAnyJ_take (i := 5) (oi := ?_) (v := ?_) ?_ (by kernel_rfl) ?_ ?_ (by assumption) ?_; rotate_left 2; (focus (simp only [List.getElem?_toArray, List.getElem?_cons_succ, List.getElem?_cons_zero]; rfl)); (focus (exact fun _ _ _ h => h)); first | (focus (refine Or.inl ⟨by rfl, ?_⟩; intro w hSw; (try dsimp only at hSw); (try dsimp only [Array.getD]); go_simp; (try with_reducible rfl))) | (focus (refine Or.inr ⟨by rfl, ?_⟩; rfl)) | fail "op 5"
          try simp only [Act.put, List.setIfInBounds_toArray, List.set_cons_zero, List.set_cons_succ]
          refine wpAnyJ_take (i := 6) (oi := ?_) (v := ?_) ?_ (by kernel_rfl) ?_ ?_ (by assumption) ?_; rotate_left 2; (focus (simp only [List.getElem?_toArray, List.getElem?_cons_succ, List.getElem?_cons_zero]; rfl)); (focus (exact fun _ _ _ h => h)); first | (focus (refine Or.inl ⟨by rfl, ?_⟩; intro w hSw; (try dsimp only at hSw); (try dsimp only [Array.getD]); go_simp; (try with_reducible rfl))) | (focus (refine Or.inr ⟨by rfl, ?_⟩; rfl)) | fail "op 6"
          try simp only [Act.put, List.setIfInBounds_toArray, List.set_cons_zero, List.set_cons_succ]
          refine wpAnyJ_take (i := 7) (oi := ?_) (v := ?_) ?_ (by kernel_rfl) ?_ ?_ (by assumption) ?_; rotate_left 2; (focus (simp only [List.getElem?_toArray, List.getElem?_cons_succ, List.getElem?_cons_zero]; rfl)); (focus (exact fun _ _ _ h => h)); first | (focus (refine Or.inl ⟨by rfl, ?_⟩; intro w hSw; (try dsimp only at hSw); have c57 := cell_of_row w A5 7 _ _ _ (hSw.blk B5.out); rw [show (recC r2 (.slice a2 r2.d.length n2))[7]? = some (.int .i64 r2.q) from rfl] at c57; (try dsimp only [Array.getD]); go_simp; (try with_reducible rfl))) | (focus (refine Or.inr ⟨by rfl, ?_⟩; rfl)) | fail "op 7"
          try simp only [Act.put, List.setIfInBounds_toArray, List.set_cons_zero, List.set_cons_succ]
          refine wpAnyJ_take (i := 8) (oi := ?_) (v := ?_) ?_ (by kernel_rfl) ?_ ?_ (by assumption) ?_; rotate_left 2; (focus (simp only [List.getElem?_toArray, List.getElem?_cons_succ, List.getElem?_cons_zero]; rfl)); (focus (exact fun _ _ _ h => h)); first | (focus (refine Or.inl ⟨by rfl, ?_⟩; intro w hSw; (try dsimp only at hSw); (try dsimp only [Array.getD]); go_simp; (try with_reducible rfl))) | (focus (refine Or.inr ⟨by rfl, ?_⟩; rfl)) | fail "op 8"
          try simp only [Act.put, List.setIfInBounds_toArray, List.set_cons_zero, List.set_cons_succ]
          refine wpAnyJ_tail (i := 9) (o := ?_) (by kernel_rfl) (by decide) ?_ (fun K hK => ?_); rotate_left; (focus (simp only [List.getElem?_toArray, List.getElem?_cons_succ, List.getElem?_cons_zero]; rfl))
          rw [if_pos (by rfl)]
          obtain ⟨b, w4, hmb, hrun4, hB4, hG4⟩ := (HX.out.gr' (G3.out.tr hHeld)).take (fun _ z => .inl (.inl z)) (s := (k : Int)) (q := r2.q) (by unfold I64; omega) HqI.out Hfq.out
          refine wp_delete_run (.tmp 30) (.tmp 35) _ _ rfl _ _ rfl rfl hrun4 ?_
          refine hK.out _ _ ?_
          clear hK K
          try simp only [Act.put, List.setIfInBounds_toArray, List.set_cons_zero, List.set_cons_succ]
          refine wpAny_done (by kernel_rfl) ?_ _
          have hbl := (Hb.out.2.1 b hmb).1
          rw [EA.out] at hbl
          have q5 := blk_far hG4 (hHeld.blk B5.out) (by have := Hz5.out; omega)
          have q2 := blk_far hG4 (hHeld.blk B2.out) (by omega)
          have T4 := Lib.hid ((Bt.of (G3.out.tr hHeld)).tr (Bt.row (X := BX p mb) hG4 (.inr hmb)))
          have rd4 := Lib.hid ((hrd3.out.gr hHeld).bt (Bt.row (X := BX p mb) hG4 (.inr hmb)) (fun _ z => .inl (.inl z)))
          have Q5 := Lib.hid q5; have Q2 := Lib.hid q2; have HB4 := Lib.hid hB4
          obtain ⟨ov4, c1', hov4⟩ := xcells hB4
          have Hwith4 := Lib.hid (fun W (hg : Gr w4 W) => with_calls ov4 B.out k r2.q W (hov4.1.gr hg) ho)
          have C1' := Lib.hid (fun W (hg : Gr w4 W) => keepc hg c1')
          obtain ⟨hpw, hbw, ovp, _, hpp, _⟩ := id hB4
          have HP := Lib.hid hpp; have Hpw := Lib.hid hpw; have Hbw := Lib.hid hbw
          clear hpp hpw hbw c1' hov4 hB4 q5 q2 hrun4 hG4 hHeld hbl G3 B5 B2 hrd3
          go_wp2_with fail
          refine region_startJ (S := fun w' => Gr w4 w') 12 (by kernel_rfl) (by exact Gr.dr Gr.rfl') (fun wz hz0 hHeld => ?_)
          simp only [List.size_toArray, List.length_cons, List.length_nil, Nat.reduceAdd]
          refine wpAnyJ_take (i := 0) (oi := ?_) (v := ?_) ?_ (by kernel_rfl) ?_ ?_ (by assumption) ?_; rotate_left 2; (focus (simp only [List.getElem?_toArray, List.getElem?_cons_zero]; rfl)); (focus (exact fun _ _ _ h => h)); first | (focus (refine Or.inl ⟨by rfl, ?_⟩; intro w hSw; (try dsimp only at hSw); (try dsimp only [Array.getD]); go_simp; (try with_reducible rfl))) | (focus (refine Or.inr ⟨by rfl, ?_⟩; rfl)) | fail "op 0"
          try simp only [Act.put, List.setIfInBounds_toArray, List.set_cons_zero, List.set_cons_succ]
          refine wpAnyJ_take (i := 1) (oi := ?_) (v := ?_) ?_ (by kernel_rfl) ?_ ?_ (by assumption) ?_; rotate_left 2; (focus (simp only [List.getElem?_toArray, List.getElem?_cons_succ, List.getElem?_cons_zero]; rfl)); (focus (exact fun _ _ _ h => h)); first | (focus (refine Or.inl ⟨by rfl, ?_⟩; intro w hSw; (try dsimp only at hSw); (try dsimp only [Array.getD]); go_simp; (try with_reducible rfl))) | (focus (refine Or.inr ⟨by rfl, ?_⟩; rfl)) | fail "op 1"
          try simp only [Act.put, List.setIfInBounds_toArray, List.set_cons_zero, List.set_cons_succ]
          refine wpAnyJ_take (i := 2) (oi := ?_) (v := ?_) ?_ (by kernel_rfl) ?_ ?_ (by assumption) ?_; rotate_left 2; (focus (simp only [List.getElem?_toArray, List.getElem?_cons_succ, List.getElem?_cons_zero]; rfl)); (focus (exact fun _ _ _ h => h)); first | (focus (refine Or.inl ⟨by rfl, ?_⟩; intro w hSw; (try dsimp only at hSw); (try dsimp only [Array.getD]); go_simp; (try with_reducible rfl))) | (focus (refine Or.inr ⟨by rfl, ?_⟩; rfl)) | fail "op 2"
          try simp only [Act.put, List.setIfInBounds_toArray, List.set_cons_zero, List.set_cons_succ]
          refine wpAnyJ_take (i := 3) (oi := ?_) (v := ?_) ?_ (by kernel_rfl) ?_ ?_ (by assumption) ?_; rotate_left 2; (focus (simp only [List.getElem?_toArray, List.getElem?_cons_succ, List.getElem?_cons_zero]; rfl)); (focus (exact fun _ _ _ h => h)); first | (focus (refine Or.inl ⟨by rfl, ?_⟩; intro w hSw; (try dsimp only at hSw); (try dsimp only [Array.getD]); go_simp; (try with_reducible rfl))) | (focus (refine Or.inr ⟨by rfl, ?_⟩; rfl)) | fail "op 3"
          try simp only [Act.put, List.setIfInBounds_toArray, List.set_cons_zero, List.set_cons_succ]
          refine wpAnyJ_take (i := 4) (oi := ?_) (v := ?_) ?_ (by kernel_rfl) ?_ ?_ (by assumption) ?_; rotate_left 2; (focus (simp only [List.getElem?_toArray, List.getElem?_cons_succ, List.getElem?_cons_zero]; rfl)); (focus (exact fun _ _ _ h => h)); first | (focus (refine Or.inl ⟨by rfl, ?_⟩; intro w hSw; (try dsimp only at hSw); have c1 := C1'.out w hSw; (try dsimp only [Array.getD]); go_simp; (try with_reducible rfl))) | (focus (refine Or.inr ⟨by rfl, ?_⟩; rfl)) | fail "op 4"
          try simp only [Act.put, List.setIfInBounds_toArray, List.set_cons_zero, List.set_cons_succ]
          refine wpAnyJ_take (i := 5) (oi := ?_) (v := ?_) ?_ (by kernel_rfl) ?_ ?_ (by assumption) ?_; rotate_left 2; (focus (simp only [List.getElem?_toArray, List.getElem?_cons_succ, List.getElem?_cons_zero]; rfl)); (focus (exact fun _ _ _ h => h)); first | (focus (refine Or.inl ⟨by rfl, ?_⟩; intro w hSw; (try dsimp only at hSw); (try dsimp only [Array.getD]); go_simp; (try with_reducible rfl))) | (focus (refine Or.inr ⟨by rfl, ?_⟩; rfl)) | fail "op 5"
          try simp only [Act.put, List.setIfInBounds_toArray, List.set_cons_zero, List.set_cons_succ]
          refine wpAnyJ_take (i := 6) (oi := ?_) (v := ?_) ?_ (by kernel_rfl) ?_ ?_ (by assumption) ?_; rotate_left 2; (focus (simp only [List.getElem?_toArray, List.getElem?_cons_succ, List.getElem?_cons_zero]; rfl)); (focus (exact fun _ _ _ h => h)); first | (focus (refine Or.inl ⟨by rfl, ?_⟩; intro w hSw; (try dsimp only at hSw); (try dsimp only [Array.getD]); go_simp; (try with_reducible rfl))) | (focus (refine Or.inr ⟨by rfl, ?_⟩; rfl)) | fail "op 6"
          try simp only [Act.put, List.setIfInBounds_toArray, List.set_cons_zero, List.set_cons_succ]
          refine wpAnyJ_take (i := 7) (oi := ?_) (v := ?_) ?_ (by kernel_rfl) ?_ ?_ (by assumption) ?_; rotate_left 2; (focus (simp only [List.getElem?_toArray, List.getElem?_cons_succ, List.getElem?_cons_zero]; rfl)); (focus (exact fun _ _ _ h => h)); first | (focus (refine Or.inl ⟨by rfl, ?_⟩; intro w hSw; (try dsimp only at hSw); (try dsimp only [Array.getD]); go_simp; (try with_reducible rfl))) | (focus (refine Or.inr ⟨by rfl, ?_⟩; rfl)) | fail "op 7"
          try simp only [Act.put, List.setIfInBounds_toArray, List.set_cons_zero, List.set_cons_succ]
          refine wpAnyJ_take (i := 8) (oi := ?_) (v := ?_) ?_ (by kernel_rfl) ?_ ?_ (by assumption) ?_; rotate_left 2; (focus (simp only [List.getElem?_toArray, List.getElem?_cons_succ, List.getElem?_cons_zero]; rfl)); (focus (exact fun _ _ _ h => h)); first | (focus (refine Or.inl ⟨by rfl, ?_⟩; intro w hSw; (try dsimp only at hSw); have c57 := cell_of_row w A5 7 _ _ _ (hSw.blk Q5.out); rw [show (recC r2 (.slice a2 r2.d.length n2))[7]? = some (.int .i64 r2.q) from rfl] at c57; (try dsimp only [Array.getD]); go_simp; (try with_reducible rfl))) | (focus (refine Or.inr ⟨by rfl, ?_⟩; rfl)) | fail "op 8"
          try simp only [Act.put, List.setIfInBounds_toArray, List.set_cons_zero, List.set_cons_succ]
          refine wpAnyJ_ready (rs := [9]) (by kernel_rfl) (by simp) (by rfl) ?_
          refine AllReadyJ.cons (o := ?_) ?_ (fun K hK => ?_) AllReadyJ.nil; rotate_left; (focus (simp only [List.getElem?_toArray, List.getElem?_cons_succ, List.getElem?_cons_zero]; rfl))
          go_simp
          go_at_call 39
          refine (Hwith4.out _ hHeld).mono ?_
          rintro e w5 ⟨v5, rfl, hr5, hb5⟩
          obtain ⟨⟨_, a5, n5, rfl, _⟩, _⟩ := id hr5
          have HR5 := Lib.hid (hr5.mono (Y := fun k => (BX p mb k ∨ E k) ∨ k = A2) (fun k hk => by rcases hk with ((hk | hk) | hk) | hk; (rw [hk]; exact Nat.lt_of_lt_of_le Hpw.out hHeld.size); exact Nat.lt_of_lt_of_le (Hbw.out _ hk).1 hHeld.size; exact Nat.lt_of_lt_of_le (HEl.out k hk) (Nat.le_trans T4.out.size hHeld.size); (rw [hk]; exact Nat.lt_of_lt_of_le (blk_lt Q2.out) hHeld.size)))
          clear hr5
          refine hK.out _ _ (hHeld.tr hb5) (fun hHeld => ?_)
          clear hK K
          try simp only [Act.put, List.setIfInBounds_toArray, List.set_cons_zero, List.set_cons_succ]
          refine wpAnyJ_take (i := 10) (oi := ?_) (v := ?_) ?_ (by kernel_rfl) ?_ ?_ (by assumption) ?_; rotate_left 2; (focus (simp only [List.getElem?_toArray, List.getElem?_cons_succ, List.getElem?_cons_zero]; rfl)); (focus (exact fun _ _ _ h => h)); first | (focus (refine Or.inl ⟨by rfl, ?_⟩; intro w hSw; (try dsimp only at hSw); (try dsimp only [Array.getD]); go_simp; (try with_reducible rfl))) | (focus (refine Or.inr ⟨by rfl, ?_⟩; rfl)) | fail "op 10"
          try simp only [Act.put, List.setIfInBounds_toArray, List.set_cons_zero, List.set_cons_succ]
          refine wpAnyJ_take (i := 11) (oi := ?_) (v := ?_) ?_ (by kernel_rfl) ?_ ?_ (by assumption) ?_; rotate_left 2; (focus (simp only [List.getElem?_toArray, List.getElem?_cons_succ, List.getElem?_cons_zero]; rfl)); (focus (exact fun _ _ _ h => h)); first | (focus (refine Or.inl ⟨by rfl, ?_⟩; intro w hSw; (try dsimp only at hSw); (try dsimp only [Array.getD]); go_simp; (try with_reducible rfl))) | (focus (refine Or.inr ⟨by rfl, ?_⟩; rfl)) | fail "op 11"
          try simp only [Act.put, List.setIfInBounds_toArray, List.set_cons_zero, List.set_cons_succ]
          refine wpAnyJ_tail (i := 12) (o := ?_) (by kernel_rfl) (by decide) ?_ (fun K hK => ?_); rotate_left; (focus (simp only [List.getElem?_toArray, List.getElem?_cons_succ, List.getElem?_cons_zero]; rfl))
          have c1 := C1'.out _ hHeld; have f1 := frozen_of_row _ p 1 _ _ (hHeld.blk HP.out)
          go_simp
          refine hK.out _ _ ?_
          clear hK K
          try simp only [Act.put, List.setIfInBounds_toArray, List.set_cons_zero, List.set_cons_succ]
          refine wpAny_done (by kernel_rfl) ?_ _
          have hB6 := (HB4.out.gr' hHeld).setOut (fun _ z => .inl (.inl z)) HR5.out
          have hT6 := (T4.out.tr (Bt.of hHeld)).tr (Bt.row (X := BX p mb) (grown_set w5 p 1 (.slice a5 (withV B.out k r2.q).length n5)) (.inl rfl))
          have rd6 := (rd4.out.gr hHeld).bt (Bt.row (X := BX p mb) (grown_set w5 p 1 (.slice a5 (withV B.out k r2.q).length n5)) (.inl rfl)) (fun _ z => .inl (.inl z))
          have hpA := Hb.out.1
          rw [EA.out] at hpA
          have q5 := blk_far (grown_set w5 p 1 (.slice a5 (withV B.out k r2.q).length n5)) (hHeld.blk Q5.out) (by have := Hz5.out; omega)
          have q2 := blk_far (grown_set w5 p 1 (.slice a5 (withV B.out k r2.q).length n5)) (hHeld.blk Q2.out) (by omega)
          generalize w5.setCell ⟨p, 1, none⟩ (.slice a5 (withV B.out k r2.q).length n5) = w6 at *
          have Z6 := Lib.hid hB6; have T6 := Lib.hid hT6; have R6 := Lib.hid rd6; have P5 := Lib.hid q5; have P2 := Lib.hid q2; have HpA := Lib.hid hpA
          clear hB6 hT6 rd6 q5 q2 hHeld hpA Q5 Q2 T4 rd4 HB4 HR5 hb5
          go_wp2_with (first | (refine wpList_load_row rfl 33 (.tmp 5) rfl A5 rfl _ (recC r2 (.slice a2 r2.d.length n2)) (0, 0) _ P5.out Try.underlying33 rfl info_rec ?_) | (refine wpList_store_blk rfl 33 (.tmp 2) (.tmp 48) rfl A2 (recC r2 (.slice a2 r2.d.length n2)) rfl rfl _ _ P2.out rfl info_rec (one_rec _ _ rfl) (fun w7 b7 g7 s7 => ?_)))
          rw [Exit.noGoto_ret]
          have h7 : Bt (fun k => k = A2) w6 w7 := Bt.row g7 rfl
          have hX : ∀ k, k = A2 → ¬ BX p mb k := fun k e z => by subst e; rcases z with z | z; (have := HpA.out; omega); (have := (Hb.out.2.1 _ z).1; rw [EA.out] at this; omega)
          refine bodyPost_ret (results_cell_tmp rfl _ _ A2 _ (recC r2 (.slice a2 r2.d.length n2)) (0, 0) _ rfl b7 Try.underlying33 rfl info_rec) rfl (.inl ⟨k, r2, .slice a2 r2.d.length n2, hlt, hnone.out, ?_, rfl, ?_, ?_, T6.out.new g7 (by rw [EA.out]; exact Nat.le_refl _)⟩)
          · unfold nextOf; rw [Hf.out]; simp only [if_pos hdue]
          · exact (R6.out.bt h7 (fun k e => .inr e)).mono (fun _ z => .inl z)
          · exact (Z6.out.bt h7 (fun k e => .inr e) hX).wid (fun _ z => .inl (.inl z))
        · have hdd : decide (Due B.out r2) = false := decide_eq_false hdue
          have hno : nextOf B k = none := by
            unfold nextOf
            rw [Hf.out]
            simp only [if_neg hdue]
          have hnone' := Lib.hid (show ∀ j : Nat, j < k + 1 → nextOf B j = none from fun j hj => by
            by_cases e : j = k
            · subst e; exact hno
            · exact hnone.out j (by omega))
          clear hno hnone
          go_wp2_with (first | (go_at_call 38; refine Hcall.out.mono ?_; rintro e w1 ⟨rfl, hb⟩; have hb1 := Lib.hid hb; clear hb) | (refine wpList_store_blk rfl 33 (.tmp 5) (.tmp 17) rfl w1.heap.size (recC r2 (.slice a2 r2.d.length n2)) rfl rfl _ _ (heap_alloc_new w1 _) rfl info_rec (one_rec _ _ rfl) (fun w2 b2 g2 s2 => ?_); have hg2 := Lib.hid (gr_new (Gr.al (hg.tr hb1.out) (.cells #[.int .i64 0, .string ⟨#[]⟩, .int .i64 0, .int .i64 0, .int .i64 0, .int .i64 0, .int .i64 0, .int .i64 0, .slice none 0 0] 33)) g2 (hg.tr hb1.out).size); have Z2 : Gr wr w2 := gr_new (Gr.al hb1.out _) g2 hb1.out.size) | (refine wpList_load_rowg (by rfl) 33 (.tmp 5) (by rfl) w1.heap.size (by rfl) _ (recC r2 (.slice a2 r2.d.length n2)) (0, 0) _ b2 Try.underlying33 rfl info_rec ?_) | (go_at_call 36; refine (Hdue.out w2 (G0.out.tr hg2.out) r2 _ (hrd.out.gr Z2).1 (Hk.out _ _ _ Hf.out)).mono ?_; rintro e w3 ⟨rfl, hb3⟩; rw [hdd]))
          go_roundw
          case rel => exact ⟨k + 1, by omega, by go_num, hg2.out.tr hb3, hnone'⟩
          case measure => simp [intOf]; omega
    · obtain rfl : k = 8 := by omega
      have hlt' : ¬ (8 : Int) < 8 := by omega
      have B2 := Lib.hid (hg.blk B0.out)
      have rz : recZ = .agg (recC noRec (.slice none 0 0)) := rfl
      go_wp2_with (first | (refine wpList_store_blk rfl 33 (.tmp 2) (.tmp 50) rfl A2 (recC noRec (.slice none 0 0)) rfl rfl _ _ B2.out rfl info_rec (one_rec _ _ rfl) (fun w7 b7 g7 s7 => ?_)))
      exact bodyPost_ret (results_cell_tmp rfl _ _ A2 _ (recC noRec (.slice none 0 0)) (0, 0) _ rfl b7 Try.underlying33 rfl info_rec) rfl (.inr ⟨hnone.out, rfl, gr_new (G0.out.tr hg) g7 (by rw [EA.out]; exact Nat.le_refl _)⟩)
end Go.Proofs.Ytnneebdcaefgoaa

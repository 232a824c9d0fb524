/- The law QuorumWrites. -/
import Derived.Test.YtpnpnjfflblkpaaQwM
namespace Go.Proofs.Ytpnpnjfflblkpaa
open Go.RowKit Go.Maps Go.Sort Go.Shelf

theorem rd_nil' {w : World} {k : Nat} : rdRow w k (.slice none 0 0) 0 [] := ⟨by simp, none, 0, rfl, Nat.le_refl _, fun h => absurd h (by decide)⟩
theorem frozen_bt {X : Nat → Prop} {w w' : World} (hb : Bt X w w') {p : Addr} {v : Value} (hx : ¬ X p.block) (hc : w.cell? p = some v) (hf : w.frozen? p = false) : w'.frozen? p = false := by
  have e := hb.block p.block (World.block_lt_of_cell? w _ hc) hx
  unfold World.frozen? at hf ⊢
  rw [e]
  exact hf
/-- Other maps are written: the reference stands. -/
theorem RqAt.btm {w w' : World} {r : Nat} {nd : Int} {nv : Value} {N H : List Int} {rv : Nat → Value} {gl : Int → List Pt} (h : RqAt w r nd nv N H rv gl) {X : Nat → Prop} (hb : Bt X w w') (hX : ∀ b, X b → ∃ es c, w.heap[b]? = some (.map es c)) : RqAt w' r nd nv N H rv gl :=
  have hn : ∀ {o : Nat} {v : Value}, w.cell? ⟨r, o, none⟩ = some v → ¬ X r := fun hc hx => map_ne_row (hX _ hx) hc rfl
  have hp : ∀ {o : Nat} {v : Value}, w.cell? ⟨r, o, none⟩ = some v → w'.cell? ⟨r, o, none⟩ = some v := fun hc => hb.cell (hn hc) hc
  ⟨hp h.c0, hp h.c1, ⟨rd_map h.row.1 hb hX, h.row.2⟩, fun k hk => ⟨hp (h.has k hk).1, frozen_bt hb (hn (h.has k hk).1) (h.has k hk).1 (h.has k hk).2⟩, fun k hk => ⟨hp (h.got k hk).1, frozen_bt hb (hn (h.got k hk).1) (h.got k hk).1 (h.got k hk).2⟩, fun k hk => ⟨rd_map (h.rows k hk).1 hb hX, (h.rows k hk).2⟩, h.lo⟩
/-- The reference is written: a write stands. -/
theorem WrAt.bto {w w' : World} {p : Nat} {nd : Int} {nv : Value} {N H : List Int} {mb : Option Nat} {r : Nat} (h : WrAt w p nd nv N mb H) (hb : Bt (fun k => k = r) w w') (hf : ∀ a m c, nv = .slice (some a) m c → 0 < N.length → a.block ≠ r) (hp : p ≠ r) (hm : mb ≠ some r) : WrAt w' p nd nv N mb H :=
  ⟨hb.cell hp h.c0, hb.cell hp h.c1, hb.cell hp h.c2, (rdO.bt (r := r) ⟨h.row, hf⟩ hb (fun _ e => e)).1, h.map.bt hb (fun k e z => hm (by rw [e, z])), h.sub, h.some_, h.nI⟩
/-- Who has acknowledged: each once, each a node. -/
structure AckL (N H : List Int) : Prop where
  sub : ∀ k ∈ H, k ∈ N
  nd : H.Nodup
theorem AckL.ack {N H : List Int} (h : AckL N H) (n : Int) : AckL N (ackH N H n) := by
  unfold ackH
  by_cases hk : ackB N H n
  · rw [if_pos hk]
    refine ⟨fun k hm => ?_, ?_⟩
    · rcases List.mem_append.1 hm with hm | hm
      · exact h.sub k hm
      · rw [List.mem_singleton.1 hm]; exact hk.1
    · refine List.nodup_append.2 ⟨h.nd, by simp, fun a ha b hb e => ?_⟩
      rw [List.mem_singleton.1 hb] at e
      exact hk.2 (e ▸ ha)
  · rw [if_neg hk]; exact h
theorem AckL.len {N H : List Int} (h : AckL N H) (hN : N.Nodup) : (thoseL N H true).length = H.length := by
  have : (thoseL N H true).Perm H := by
    refine (List.perm_ext_iff_of_nodup (hN.filter _) h.nd).2 fun a => ?_
    rw [List.mem_filter]
    constructor
    · rintro ⟨_, h2⟩
      simpa using h2
    · intro ha
      exact ⟨h.sub a ha, by simpa using ha⟩
  exact this.length_eq
theorem ackH_len (N H : List Int) (n : Int) : (ackH N H n).length ≤ H.length + 1 := by
  unfold ackH; split <;> simp
theorem nodesOf_nodup (l : List Int) : (nodesOf l).Nodup := (nodesTo_lt l 16).imp (fun h e => by rw [e] at h; exact absurd h (Int.lt_irrefl _))
theorem mx_pos (n : Int) : 0 < mx n 1 := by unfold mx; split <;> omega
structure WQ (w0 w : World) (p b r : Nat) (nd : Int) (nv nv2 : Value) (N H H2 : List Int) (rv : Nat → Value) : Prop where
  wr : WrAt w p nd nv N (some b) H
  rq : RqAt w r nd nv2 N H2 rv (fun _ => [])
  gr : Gr w0 w
  far : ∀ a m c, nv = .slice (some a) m c → 0 < N.length → a.block ≠ r
  pr : p ≠ r
  br : b ≠ r
  nb : w0.heap.size ≤ b
  nr : w0.heap.size ≤ r
section
variable {w0 w w' : World} {p b r : Nat} {nd : Int} {nv nv2 : Value} {N H H2 : List Int} {rv : Nat → Value}
theorem WQ.grow (h : WQ w0 w p b r nd nv nv2 N H H2 rv) (hg : Gr w w') : WQ w0 w' p b r nd nv nv2 N H H2 rv := ⟨h.wr.gr hg, h.rq.gr hg, h.gr.tr hg, h.far, h.pr, h.br, h.nb, h.nr⟩
theorem WQ.ack (h : WQ w0 w p b r nd nv nv2 N H H2 rv) {H' : List Int} (ha : WrAt w' p nd nv N (some b) H') (hb : Bt (fun k => some b = some k) w w') : WQ w0 w' p b r nd nv nv2 N H' H2 rv :=
  ⟨ha, h.rq.btm hb (fun k e => by injection e with e; rw [← e]; exact h.wr.map.map), hb.gr h.gr (fun k e => by injection e with e; rw [← e]; exact h.nb), h.far, h.pr, h.br, h.nb, h.nr⟩
theorem WQ.ans (h : WQ w0 w p b r nd nv nv2 N H H2 rv) {H' : List Int} {rv' : Nat → Value} (ha : RqAt w' r nd nv2 N H' rv' (fun _ => [])) (hb : Bt (fun k => k = r) w w') : WQ w0 w' p b r nd nv nv2 N H H' rv' :=
  ⟨h.wr.bto hb h.far h.pr (fun e => h.br (by injection e)), ha, hb.gr h.gr (fun k e => by rw [e]; exact h.nr), h.far, h.pr, h.br, h.nb, h.nr⟩
theorem WQ.answer (h : WQ w0 w p b r nd nv nv2 N H H2 rv) {n : Int} (hb : Bt (fun k => k = r) w w') (ha : if ackB N H2 n then ∃ rv', RqAt w' r nd nv2 N (H2 ++ [n]) rv' (fun k => if k = n then sortP [] else []) else RqAt w' r nd nv2 N H2 rv (fun _ => [])) :
    ∃ rv', WQ w0 w' p b r nd nv nv2 N H (ackH N H2 n) rv' := by
  unfold ackH
  by_cases hk : ackB N H2 n
  · rw [if_pos hk] at ha ⊢
    obtain ⟨rv', ha⟩ := ha
    have e : (fun k : Int => if k = n then sortP [] else []) = fun _ => [] := by
      funext k
      by_cases e : k = n
      · rw [if_pos e]; rfl
      · rw [if_neg e]
    rw [e] at ha
    exact ⟨rv', h.ans ha hb⟩
  · rw [if_neg hk] at ha ⊢
    exact ⟨rv, h.ans ha hb⟩
end
set_option maxRecDepth 100000 in
set_option maxHeartbeats 8000000 in
theorem writes_law (need : Int) (v1 : Value) (ns : List Int) (v2 : Value) (acks : List Int) (w : World) (hv1 : rdRow w 1 v1 ns.length (encI ns)) (hl1 : ns.length ≤ maxLen) (hv2 : rdRow w 1 v2 acks.length (encI acks)) (hI : ∀ x ∈ acks, I64 x) (hl2 : acks.length ≤ maxLen) :
    Calls Try.prog 5 #[.int .i64 need, v1, v2] w fun e w' => e = .returned (.bool true) ∧ Gr w w' := by
  obtain ⟨aa, ac, hv2e, hac, hrd⟩ := rd_at hv2
  subst hv2e
  have HV1 := Lib.hid hv1; have HRD := Lib.hid hrd; have HI := Lib.hid hI
  unfold maxLen at hl2
  clear hv1 hv2 hrd hI
  go_enter Try.func5, Try.ntmps5
  go_wp2_with fail
  refine (awake_calls _).mono ?_
  rintro e w1 ⟨rfl, hg1⟩
  have G1 := Lib.hid hg1
  clear hg1
  go_wp2_with fail
  refine (few_calls v1 ns _ (HV1.out.gr G1.out) hl1).mono ?_
  rintro e w2 ⟨vf, rfl, hf, rfl⟩
  have hlf : (ns.take 12).length ≤ 12 := List.length_take_le 12 ns
  obtain ⟨F, eF⟩ : ∃ F, ns.take 12 = F := ⟨_, rfl⟩
  rw [eF] at hf hlf
  have HF := Lib.hid hf
  clear hf eF
  go_wp2_with fail
  refine (newwrite_calls need vf F _ HF.out (by omega)).mono ?_
  rintro e w3 ⟨p, nv, b, rfl, ha, _, hp, hb, hg⟩
  have HW := Lib.hid ha; have HB := Lib.hid hb; have G3 := Lib.hid hg
  clear ha hp hb hg
  go_wp2_with fail
  refine (rnew_calls need vf F _ (HF.out.gr G3.out) (by omega)).mono ?_
  rintro e w4 ⟨r, nv2, rfl, hq, hr, hg⟩
  have hN := nodesOf_len F
  have hNd := nodesOf_nodup F
  have hmx := mx_pos need
  obtain ⟨N, eN⟩ : ∃ N, nodesOf F = N := ⟨_, rfl⟩
  obtain ⟨nd, end_⟩ : ∃ nd, mx need 1 = nd := ⟨_, rfl⟩
  rw [eN, end_] at HW hq
  rw [eN] at hN hNd
  rw [end_] at hmx
  have HNd := Lib.hid hNd
  have Hmx := Lib.hid hmx
  have H0 := Lib.hid (show WQ w w4 p b r nd nv nv2 N [] [] (fun _ => .slice none 0 0) from by
    refine ⟨HW.out.gr hg, hq, (G1.out.tr G3.out).tr hg, fun a m c e h0 hk => ?_, fun e => ?_, fun e => ?_, Nat.le_trans G1.out.size HB.out, Nat.le_trans (G1.out.tr G3.out).size hr⟩
    · have := (rdO_new (by decide) HW.out.row).2 a m c e h0
      obtain ⟨_, a', c', e', _, h2⟩ := HW.out.row
      rw [e] at e'
      have e1 := (Value.slice.inj e').1
      obtain ⟨b', o', e2, h4⟩ := h2 h0
      rw [← e1] at e2
      injection e2 with e2
      have hx : ∃ u, (encI N)[0]? = some u := by
        have : 0 < (encI N).length := by rw [encI_map]; simpa using h0
        exact ⟨_, List.getElem?_eq_getElem this⟩
      obtain ⟨u, hu⟩ := hx
      have hlt := World.block_lt_of_cell? w3 _ (h4 0 u hu)
      rw [e2] at hk
      simp only at hk hlt
      omega
    · have := World.block_lt_of_cell? w3 _ HW.out.c0
      simp only at this
      omega
    · have := HW.out.map.lt b rfl
      omega)
  have HL0 := Lib.hid (show AckL N [] from ⟨fun k h => (by cases h), List.nodup_nil⟩)
  clear HW HB G1 G3 hq hr hg hNd hmx eN end_ HF HV1
  go_wp2_with fail
  go_loopw [11] (fun iv wr => ∃ (i : Nat) (H : List Int) (rv : Nat → Value), i ≤ acks.length ∧ i ≤ 20 ∧ H.length ≤ i ∧ iv = .int .i64 i ∧ Hid (AckL N H) ∧ Hid (WQ w wr p b r nd nv nv2 N H H rv)) (fun iv _ => acks.length - (intOf iv).toNat)
  case atStart => exact ⟨0, [], _, Nat.zero_le _, Nat.zero_le _, Nat.le_refl _, rfl, HL0, H0⟩
  case round =>
    obtain ⟨i, H, rv, hi1, hi2, hH, rfl, HL, HQ⟩ := hrel
    clear H0 HL0
    by_cases hlt : i < acks.length ∧ i < 20
    · obtain ⟨hl1', hl2'⟩ := hlt
      have hk1 : (i : Int) < acks.length := by omega
      have hk2 : (i : Int) < 20 := by omega
      obtain ⟨ba, oa, rfl, hc⟩ := HRD.out (by omega)
      have hx := HI.out _ (List.getElem_mem hl1')
      have Hci := Lib.hid (hc i hl1')
      obtain ⟨x, ex⟩ : ∃ x, acks[i] = x := ⟨_, rfl⟩
      rw [ex] at hx Hci
      have Hx := Lib.hid hx
      have Hk1 := Lib.hid hk1
      obtain ⟨d, ed⟩ : ∃ d, decide (ackB N H x) = d := ⟨_, rfl⟩
      have Hd := Lib.hid ed
      clear hc ex hx ed
      go_wp2_with fail
      refine region_start (S := fun w' => Gr w w') (by kernel_rfl) (by exact Gr.dr HQ.out.gr) (fun wz hz0 hHeld => ?_)
      simp only [List.size_toArray, List.length_cons, List.length_nil, Nat.reduceAdd]
      refine wpAnyH_take (i := 0) (oi := ?_) (v := ?_) ?_ (by kernel_rfl) (by kernel_rfl) (by kernel_rfl) ?_ ?_ (by assumption) ?_; rotate_left 2; (focus (simp only [List.getElem?_toArray, List.getElem?_cons_zero]; rfl)); (focus (exact fun _ _ _ h => h)); first | (focus (refine Or.inl ⟨by rfl, ?_⟩; intro w hSw; (try dsimp only at hSw); (try dsimp only [Array.getD]); go_simp; (try with_reducible rfl))) | (focus (refine Or.inr ⟨by rfl, ?_⟩; rfl)) | fail "op 0"
      try simp only [Act.put, List.setIfInBounds_toArray, List.set_cons_zero, List.set_cons_succ]
      refine wpAnyH_take (i := 1) (oi := ?_) (v := ?_) ?_ (by kernel_rfl) (by kernel_rfl) (by kernel_rfl) ?_ ?_ (by assumption) ?_; rotate_left 2; (focus (simp only [List.getElem?_toArray, List.getElem?_cons_succ, List.getElem?_cons_zero]; rfl)); (focus (exact fun _ _ _ h => h)); first | (focus (refine Or.inl ⟨by rfl, ?_⟩; intro w hSw; (try dsimp only at hSw); (try dsimp only [Array.getD]); go_simp; (try with_reducible rfl))) | (focus (refine Or.inr ⟨by rfl, ?_⟩; rfl)) | fail "op 1"
      try simp only [Act.put, List.setIfInBounds_toArray, List.set_cons_zero, List.set_cons_succ]
      refine wpAnyH_take (i := 2) (oi := ?_) (v := ?_) ?_ (by kernel_rfl) (by kernel_rfl) (by kernel_rfl) ?_ ?_ (by assumption) ?_; rotate_left 2; (focus (simp only [List.getElem?_toArray, List.getElem?_cons_succ, List.getElem?_cons_zero]; rfl)); (focus (exact fun _ _ _ h => h)); first | (focus (refine Or.inl ⟨by rfl, ?_⟩; intro w hSw; (try dsimp only at hSw); (try dsimp only [Array.getD]); go_simp; (try with_reducible rfl))) | (focus (refine Or.inr ⟨by rfl, ?_⟩; rfl)) | fail "op 2"
      try simp only [Act.put, List.setIfInBounds_toArray, List.set_cons_zero, List.set_cons_succ]
      refine wpAnyH_take (i := 3) (oi := ?_) (v := ?_) ?_ (by kernel_rfl) (by kernel_rfl) (by kernel_rfl) ?_ ?_ (by assumption) ?_; rotate_left 2; (focus (simp only [List.getElem?_toArray, List.getElem?_cons_succ, List.getElem?_cons_zero]; rfl)); (focus (exact fun _ _ _ h => h)); first | (focus (refine Or.inl ⟨by rfl, ?_⟩; intro w hSw; (try dsimp only at hSw); have hk1 := Hk1.out; (try dsimp only [Array.getD]); go_simp; (try with_reducible rfl))) | (focus (refine Or.inr ⟨by rfl, ?_⟩; rfl)) | fail "op 3"
      try simp only [Act.put, List.setIfInBounds_toArray, List.set_cons_zero, List.set_cons_succ]
      refine wpAnyH_take (i := 4) (oi := ?_) (v := ?_) ?_ (by kernel_rfl) (by kernel_rfl) (by kernel_rfl) ?_ ?_ (by assumption) ?_; rotate_left 2; (focus (simp only [List.getElem?_toArray, List.getElem?_cons_succ, List.getElem?_cons_zero]; rfl)); (focus (exact fun _ _ _ h => h)); first | (focus (refine Or.inl ⟨by rfl, ?_⟩; intro w hSw; (try dsimp only at hSw); have ci := keepc hSw Hci.out; (try dsimp only [Array.getD]); go_simp; (try with_reducible rfl))) | (focus (refine Or.inr ⟨by rfl, ?_⟩; rfl)) | fail "op 4"
      try simp only [Act.put, List.setIfInBounds_toArray, List.set_cons_zero, List.set_cons_succ]
      refine wpAnyH_take (i := 6) (oi := ?_) (v := ?_) ?_ (by kernel_rfl) (by kernel_rfl) (by kernel_rfl) ?_ ?_ (by assumption) ?_; rotate_left 2; (focus (simp only [List.getElem?_toArray, List.getElem?_cons_succ, List.getElem?_cons_zero]; rfl)); (focus (exact fun _ _ _ h => h)); first | (focus (refine Or.inl ⟨by rfl, ?_⟩; intro w hSw; (try dsimp only at hSw); (try dsimp only [Array.getD]); go_simp; (try with_reducible rfl))) | (focus (refine Or.inr ⟨by rfl, ?_⟩; rfl)) | fail "op 6"
      try simp only [Act.put, List.setIfInBounds_toArray, List.set_cons_zero, List.set_cons_succ]
      refine wpAnyH_take (i := 7) (oi := ?_) (v := ?_) ?_ (by kernel_rfl) (by kernel_rfl) (by kernel_rfl) ?_ ?_ (by assumption) ?_; rotate_left 2; (focus (simp only [List.getElem?_toArray, List.getElem?_cons_succ, List.getElem?_cons_zero]; rfl)); (focus (exact fun _ _ _ h => h)); first | (focus (refine Or.inl ⟨by rfl, ?_⟩; intro w hSw; (try dsimp only at hSw); (try dsimp only [Array.getD]); go_simp; (try with_reducible rfl))) | (focus (refine Or.inr ⟨by rfl, ?_⟩; rfl)) | fail "op 7"
      try simp only [Act.put, List.setIfInBounds_toArray, List.set_cons_zero, List.set_cons_succ]
      refine wpAnyH_take (i := 8) (oi := ?_) (v := ?_) ?_ (by kernel_rfl) (by kernel_rfl) (by kernel_rfl) ?_ ?_ (by assumption) ?_; rotate_left 2; (focus (simp only [List.getElem?_toArray, List.getElem?_cons_succ, List.getElem?_cons_zero]; rfl)); (focus (exact fun _ _ _ h => h)); first | (focus (refine Or.inl ⟨by rfl, ?_⟩; intro w hSw; (try dsimp only at hSw); (try dsimp only [Array.getD]); go_simp; (try with_reducible rfl))) | (focus (refine Or.inr ⟨by rfl, ?_⟩; rfl)) | fail "op 8"
      try simp only [Act.put, List.setIfInBounds_toArray, List.set_cons_zero, List.set_cons_succ]
      refine wpAnyH_take (i := 9) (oi := ?_) (v := ?_) ?_ (by kernel_rfl) (by kernel_rfl) (by kernel_rfl) ?_ ?_ (by assumption) ?_; rotate_left 2; (focus (simp only [List.getElem?_toArray, List.getElem?_cons_succ, List.getElem?_cons_zero]; rfl)); (focus (exact fun _ _ _ h => h)); first | (focus (refine Or.inl ⟨by rfl, ?_⟩; intro w hSw; (try dsimp only at hSw); have hk1 := Hk1.out; (try dsimp only [Array.getD]); go_simp; (try with_reducible rfl))) | (focus (refine Or.inr ⟨by rfl, ?_⟩; rfl)) | fail "op 9"
      try simp only [Act.put, List.setIfInBounds_toArray, List.set_cons_zero, List.set_cons_succ]
      refine wpAnyH_take (i := 10) (oi := ?_) (v := ?_) ?_ (by kernel_rfl) (by kernel_rfl) (by kernel_rfl) ?_ ?_ (by assumption) ?_; rotate_left 2; (focus (simp only [List.getElem?_toArray, List.getElem?_cons_succ, List.getElem?_cons_zero]; rfl)); (focus (exact fun _ _ _ h => h)); first | (focus (refine Or.inl ⟨by rfl, ?_⟩; intro w hSw; (try dsimp only at hSw); have ci := keepc hSw Hci.out; (try dsimp only [Array.getD]); go_simp; (try with_reducible rfl))) | (focus (refine Or.inr ⟨by rfl, ?_⟩; rfl)) | fail "op 10"
      try simp only [Act.put, List.setIfInBounds_toArray, List.set_cons_zero, List.set_cons_succ]
      refine wpAnyH_ready (rs := [5]) (by kernel_rfl) (by simp) ?_
      refine AllReadyH.cons (o := ?_) ?_ (fun K hK => ?_) AllReadyH.nil; rotate_left; (focus (simp only [List.getElem?_toArray, List.getElem?_cons_succ, List.getElem?_cons_zero]; rfl))
      go_simp
      go_at_call 14
      refine (ack_calls _ p nd nv N (some b) H (HQ.out.grow hz0).wr (by omega) (by omega) x Hx.out).mono ?_
      rintro e w6 ⟨rfl, ha6, hb6⟩
      have H6 := Lib.hid (show WQ w w6 p b r nd nv nv2 N (ackH N H x) H rv from (HQ.out.grow hz0).ack ha6 hb6)
      rw [Hd.out]
      clear ha6 hb6
      refine hK.out _ _ H6.out.gr (fun hHeld => ?_)
      clear hK K
      try simp only [Act.put, List.setIfInBounds_toArray, List.set_cons_zero, List.set_cons_succ]
      refine wpAnyH_ready (rs := [11]) (by kernel_rfl) (by simp) ?_
      refine AllReadyH.cons (o := ?_) ?_ (fun K hK => ?_) AllReadyH.nil; rotate_left; (focus (simp only [List.getElem?_toArray, List.getElem?_cons_succ, List.getElem?_cons_zero]; rfl))
      go_simp
      go_at_call 25
      refine (ranswer_calls _ r nd nv2 N H rv (fun _ => []) H6.out.rq (by omega) x (.slice none 0 0) [] ⟨rd_nil', fun a m c e => by cases e⟩ (by decide)).mono ?_
      rintro e w7 ⟨rfl, hb7, ha7⟩
      obtain ⟨rv7, h7⟩ := WQ.answer H6.out hb7 ha7
      have H7 := Lib.hid h7
      rw [Hd.out]
      clear hb7 ha7 h7
      refine hK.out _ _ H7.out.gr (fun hHeld => ?_)
      clear hK K
      try simp only [Act.put, List.setIfInBounds_toArray, List.set_cons_zero, List.set_cons_succ]
      refine wpAnyH_take (i := 12) (oi := ?_) (v := ?_) ?_ (by kernel_rfl) (by kernel_rfl) (by kernel_rfl) ?_ ?_ (by assumption) ?_; rotate_left 2; (focus (simp only [List.getElem?_toArray, List.getElem?_cons_succ, List.getElem?_cons_zero]; rfl)); (focus (exact fun _ _ _ h => h)); first | (focus (refine Or.inl ⟨by rfl, ?_⟩; intro w hSw; (try dsimp only at hSw); (try dsimp only [Array.getD]); go_simp; (try with_reducible rfl))) | (focus (refine Or.inr ⟨by rfl, ?_⟩; rfl)) | fail "op 12"
      try simp only [Act.put, List.setIfInBounds_toArray, List.set_cons_zero, List.set_cons_succ]
      refine wpAnyH_done (by kernel_rfl) ?_ _
      have G := Lib.hid hHeld
      clear hHeld hz0 G HQ H6
      have hLen := ackH_len N H x
      have HL2 := Lib.hid (HL.out.ack x)
      obtain ⟨J, eJ⟩ : ∃ J, ackH N H x = J := ⟨_, rfl⟩
      rw [eJ] at H7 HL2 hLen
      have HX := Lib.hid H7.out
      have HTl := Lib.hid (HL2.out.len HNd.out)
      obtain ⟨t, et⟩ : ∃ t, decide (nd ≤ (J.length : Int)) = t := ⟨_, rfl⟩
      have Ht := Lib.hid et
      have Ht2 := Lib.hid (show decide (0 < nd ∧ nd ≤ (J.length : Int)) = t by rw [← et]; have := Hmx.out; simp [this])
      have hbd : (d != d) = false := by cases d <;> rfl
      have hbt : (t != t) = false := by cases t <;> rfl
      have Hbt := Lib.hid hbt
      clear H7 HL eJ et hbt
      (try rw [hbd])
      go_wp2_with fail
      refine (have_calls _ p nd nv N (some b) J HX.out.wr (by omega)).mono ?_
      rintro e wa ⟨va, rfl, hoa, hga⟩
      have RA := Lib.hid (rdRow_of_own hoa)
      replace HX := Lib.hid (HX.out.grow hga)
      clear hoa hga
      go_wp2_with fail
      refine (rqhave_calls _ r nd nv2 N J rv7 _ HX.out.rq (by omega) true).mono ?_
      rintro e wb ⟨vb, rfl, hob, hgb⟩
      replace RA := Lib.hid (RA.out.gr hgb)
      have RB := Lib.hid (rdRow_of_own hob)
      replace HX := Lib.hid (HX.out.grow hgb)
      clear hob hgb
      go_wp2_with fail
      refine (same_calls va vb (thoseL N J true) (thoseL N J true) _ RA.out RB.out (by have := thoseL_len N J true; omega)).mono ?_
      rintro e wc ⟨rfl, hgc⟩
      replace HX := Lib.hid (HX.out.grow hgc)
      rw [decide_eq_true (rfl : thoseL N J true = thoseL N J true)]
      clear hgc RA RB
      go_wp2_with fail
      refine (missing_calls _ p nd nv N (some b) J HX.out.wr (by omega)).mono ?_
      rintro e wa ⟨va, rfl, hoa, hga⟩
      have RA := Lib.hid (rdRow_of_own hoa)
      replace HX := Lib.hid (HX.out.grow hga)
      clear hoa hga
      go_wp2_with fail
      refine (rqhave_calls _ r nd nv2 N J rv7 _ HX.out.rq (by omega) false).mono ?_
      rintro e wb ⟨vb, rfl, hob, hgb⟩
      replace RA := Lib.hid (RA.out.gr hgb)
      have RB := Lib.hid (rdRow_of_own hob)
      replace HX := Lib.hid (HX.out.grow hgb)
      clear hob hgb
      go_wp2_with fail
      refine (same_calls va vb (thoseL N J false) (thoseL N J false) _ RA.out RB.out (by have := thoseL_len N J false; omega)).mono ?_
      rintro e wc ⟨rfl, hgc⟩
      replace HX := Lib.hid (HX.out.grow hgc)
      rw [decide_eq_true (rfl : thoseL N J false = thoseL N J false)]
      clear hgc RA RB
      go_wp2_with fail
      obtain ⟨wq0, ewq⟩ : ∃ z, wc = z := ⟨_, rfl⟩
      subst ewq
      refine region_start (S := fun w' => Gr wc w') (by kernel_rfl) (by exact Gr.dr Gr.rfl') (fun wz hz0 hHeld => ?_)
      simp only [List.size_toArray, List.length_cons, List.length_nil, Nat.reduceAdd]
      refine wpAnyH_take (i := 0) (oi := ?_) (v := ?_) ?_ (by kernel_rfl) (by kernel_rfl) (by kernel_rfl) ?_ ?_ (by assumption) ?_; rotate_left 2; (focus (simp only [List.getElem?_toArray, List.getElem?_cons_zero]; rfl)); (focus (exact fun _ _ _ h => h)); first | (focus (refine Or.inl ⟨by rfl, ?_⟩; intro w hSw; (try dsimp only at hSw); (try dsimp only [Array.getD]); go_simp; (try with_reducible rfl))) | (focus (refine Or.inr ⟨by rfl, ?_⟩; rfl)) | fail "op 0"
      try simp only [Act.put, List.setIfInBounds_toArray, List.set_cons_zero, List.set_cons_succ]
      refine wpAnyH_take (i := 1) (oi := ?_) (v := ?_) ?_ (by kernel_rfl) (by kernel_rfl) (by kernel_rfl) ?_ ?_ (by assumption) ?_; rotate_left 2; (focus (simp only [List.getElem?_toArray, List.getElem?_cons_succ, List.getElem?_cons_zero]; rfl)); (focus (exact fun _ _ _ h => h)); first | (focus (refine Or.inl ⟨by rfl, ?_⟩; intro w hSw; (try dsimp only at hSw); (try dsimp only [Array.getD]); go_simp; (try with_reducible rfl))) | (focus (refine Or.inr ⟨by rfl, ?_⟩; rfl)) | fail "op 1"
      try simp only [Act.put, List.setIfInBounds_toArray, List.set_cons_zero, List.set_cons_succ]
      refine wpAnyH_take (i := 2) (oi := ?_) (v := ?_) ?_ (by kernel_rfl) (by kernel_rfl) (by kernel_rfl) ?_ ?_ (by assumption) ?_; rotate_left 2; (focus (simp only [List.getElem?_toArray, List.getElem?_cons_succ, List.getElem?_cons_zero]; rfl)); (focus (exact fun _ _ _ h => h)); first | (focus (refine Or.inl ⟨by rfl, ?_⟩; intro w hSw; (try dsimp only at hSw); (try dsimp only [Array.getD]); go_simp; (try with_reducible rfl))) | (focus (refine Or.inr ⟨by rfl, ?_⟩; rfl)) | fail "op 2"
      try simp only [Act.put, List.setIfInBounds_toArray, List.set_cons_zero, List.set_cons_succ]
      refine wpAnyH_take (i := 3) (oi := ?_) (v := ?_) ?_ (by kernel_rfl) (by kernel_rfl) (by kernel_rfl) ?_ ?_ (by assumption) ?_; rotate_left 2; (focus (simp only [List.getElem?_toArray, List.getElem?_cons_succ, List.getElem?_cons_zero]; rfl)); (focus (exact fun _ _ _ h => h)); first | (focus (refine Or.inl ⟨by rfl, ?_⟩; intro w hSw; (try dsimp only at hSw); (try dsimp only [Array.getD]); go_simp; (try with_reducible rfl))) | (focus (refine Or.inr ⟨by rfl, ?_⟩; rfl)) | fail "op 3"
      try simp only [Act.put, List.setIfInBounds_toArray, List.set_cons_zero, List.set_cons_succ]
      refine wpAnyH_take (i := 4) (oi := ?_) (v := ?_) ?_ (by kernel_rfl) (by kernel_rfl) (by kernel_rfl) ?_ ?_ (by assumption) ?_; rotate_left 2; (focus (simp only [List.getElem?_toArray, List.getElem?_cons_succ, List.getElem?_cons_zero]; rfl)); (focus (exact fun _ _ _ h => h)); first | (focus (refine Or.inl ⟨by rfl, ?_⟩; intro w hSw; (try dsimp only at hSw); (try dsimp only [Array.getD]); go_simp; (try with_reducible rfl))) | (focus (refine Or.inr ⟨by rfl, ?_⟩; rfl)) | fail "op 4"
      try simp only [Act.put, List.setIfInBounds_toArray, List.set_cons_zero, List.set_cons_succ]
      refine wpAnyH_take (i := 5) (oi := ?_) (v := ?_) ?_ (by kernel_rfl) (by kernel_rfl) (by kernel_rfl) ?_ ?_ (by assumption) ?_; rotate_left 2; (focus (simp only [List.getElem?_toArray, List.getElem?_cons_succ, List.getElem?_cons_zero]; rfl)); (focus (exact fun _ _ _ h => h)); first | (focus (refine Or.inl ⟨by rfl, ?_⟩; intro w hSw; (try dsimp only at hSw); (try dsimp only [Array.getD]); go_simp; (try with_reducible rfl))) | (focus (refine Or.inr ⟨by rfl, ?_⟩; rfl)) | fail "op 5"
      try simp only [Act.put, List.setIfInBounds_toArray, List.set_cons_zero, List.set_cons_succ]
      refine wpAnyH_take (i := 6) (oi := ?_) (v := ?_) ?_ (by kernel_rfl) (by kernel_rfl) (by kernel_rfl) ?_ ?_ (by assumption) ?_; rotate_left 2; (focus (simp only [List.getElem?_toArray, List.getElem?_cons_succ, List.getElem?_cons_zero]; rfl)); (focus (exact fun _ _ _ h => h)); first | (focus (refine Or.inl ⟨by rfl, ?_⟩; intro w hSw; (try dsimp only at hSw); (try dsimp only [Array.getD]); go_simp; (try with_reducible rfl))) | (focus (refine Or.inr ⟨by rfl, ?_⟩; rfl)) | fail "op 6"
      try simp only [Act.put, List.setIfInBounds_toArray, List.set_cons_zero, List.set_cons_succ]
      refine wpAnyH_take (i := 7) (oi := ?_) (v := ?_) ?_ (by kernel_rfl) (by kernel_rfl) (by kernel_rfl) ?_ ?_ (by assumption) ?_; rotate_left 2; (focus (simp only [List.getElem?_toArray, List.getElem?_cons_succ, List.getElem?_cons_zero]; rfl)); (focus (exact fun _ _ _ h => h)); first | (focus (refine Or.inl ⟨by rfl, ?_⟩; intro w hSw; (try dsimp only at hSw); (try dsimp only [Array.getD]); go_simp; (try with_reducible rfl))) | (focus (refine Or.inr ⟨by rfl, ?_⟩; rfl)) | fail "op 7"
      try simp only [Act.put, List.setIfInBounds_toArray, List.set_cons_zero, List.set_cons_succ]
      refine wpAnyH_take (i := 9) (oi := ?_) (v := ?_) ?_ (by kernel_rfl) (by kernel_rfl) (by kernel_rfl) ?_ ?_ (by assumption) ?_; rotate_left 2; (focus (simp only [List.getElem?_toArray, List.getElem?_cons_succ, List.getElem?_cons_zero]; rfl)); (focus (exact fun _ _ _ h => h)); first | (focus (refine Or.inl ⟨by rfl, ?_⟩; intro w hSw; (try dsimp only at hSw); (try dsimp only [Array.getD]); go_simp; (try with_reducible rfl))) | (focus (refine Or.inr ⟨by rfl, ?_⟩; rfl)) | fail "op 9"
      try simp only [Act.put, List.setIfInBounds_toArray, List.set_cons_zero, List.set_cons_succ]
      refine wpAnyH_take (i := 12) (oi := ?_) (v := ?_) ?_ (by kernel_rfl) (by kernel_rfl) (by kernel_rfl) ?_ ?_ (by assumption) ?_; rotate_left 2; (focus (simp only [List.getElem?_toArray, List.getElem?_cons_succ, List.getElem?_cons_zero]; rfl)); (focus (exact fun _ _ _ h => h)); first | (focus (refine Or.inl ⟨by rfl, ?_⟩; intro w hSw; (try dsimp only at hSw); (try dsimp only [Array.getD]); go_simp; (try with_reducible rfl))) | (focus (refine Or.inr ⟨by rfl, ?_⟩; rfl)) | fail "op 12"
      try simp only [Act.put, List.setIfInBounds_toArray, List.set_cons_zero, List.set_cons_succ]
      refine wpAnyH_take (i := 13) (oi := ?_) (v := ?_) ?_ (by kernel_rfl) (by kernel_rfl) (by kernel_rfl) ?_ ?_ (by assumption) ?_; rotate_left 2; (focus (simp only [List.getElem?_toArray, List.getElem?_cons_succ, List.getElem?_cons_zero]; rfl)); (focus (exact fun _ _ _ h => h)); first | (focus (refine Or.inl ⟨by rfl, ?_⟩; intro w hSw; (try dsimp only at hSw); (try dsimp only [Array.getD]); go_simp; (try with_reducible rfl))) | (focus (refine Or.inr ⟨by rfl, ?_⟩; rfl)) | fail "op 13"
      try simp only [Act.put, List.setIfInBounds_toArray, List.set_cons_zero, List.set_cons_succ]
      refine wpAnyH_take (i := 14) (oi := ?_) (v := ?_) ?_ (by kernel_rfl) (by kernel_rfl) (by kernel_rfl) ?_ ?_ (by assumption) ?_; rotate_left 2; (focus (simp only [List.getElem?_toArray, List.getElem?_cons_succ, List.getElem?_cons_zero]; rfl)); (focus (exact fun _ _ _ h => h)); first | (focus (refine Or.inl ⟨by rfl, ?_⟩; intro w hSw; (try dsimp only at hSw); (try dsimp only [Array.getD]); go_simp; (try with_reducible rfl))) | (focus (refine Or.inr ⟨by rfl, ?_⟩; rfl)) | fail "op 14"
      try simp only [Act.put, List.setIfInBounds_toArray, List.set_cons_zero, List.set_cons_succ]
      refine wpAnyH_take (i := 15) (oi := ?_) (v := ?_) ?_ (by kernel_rfl) (by kernel_rfl) (by kernel_rfl) ?_ ?_ (by assumption) ?_; rotate_left 2; (focus (simp only [List.getElem?_toArray, List.getElem?_cons_succ, List.getElem?_cons_zero]; rfl)); (focus (exact fun _ _ _ h => h)); first | (focus (refine Or.inl ⟨by rfl, ?_⟩; intro w hSw; (try dsimp only at hSw); have c0 := (HX.out.grow hSw).rq.c0; (try dsimp only [Array.getD]); go_simp; (try with_reducible rfl))) | (focus (refine Or.inr ⟨by rfl, ?_⟩; rfl)) | fail "op 15"
      try simp only [Act.put, List.setIfInBounds_toArray, List.set_cons_zero, List.set_cons_succ]
      refine wpAnyH_ready (rs := [8]) (by kernel_rfl) (by simp) ?_
      refine AllReadyH.cons (o := ?_) ?_ (fun K hK => ?_) AllReadyH.nil; rotate_left; (focus (simp only [List.getElem?_toArray, List.getElem?_cons_succ, List.getElem?_cons_zero]; rfl))
      rw [if_pos (by rfl)]
      go_simp
      go_at_call 13
      refine (done_calls _ p nd nv N (some b) J (HX.out.grow hHeld).wr).mono ?_
      rintro e w6 ⟨rfl, hg6⟩
      rw [Ht2.out]
      refine hK.out _ _ (hHeld.tr hg6) (fun hHeld => ?_)
      clear hK K
      try simp only [Act.put, List.setIfInBounds_toArray, List.set_cons_zero, List.set_cons_succ]
      refine wpAnyH_ready (rs := [10]) (by kernel_rfl) (by simp) ?_
      refine AllReadyH.cons (o := ?_) ?_ (fun K hK => ?_) AllReadyH.nil; rotate_left; (focus (simp only [List.getElem?_toArray, List.getElem?_cons_succ, List.getElem?_cons_zero]; rfl))
      rw [if_pos (by rfl)]
      go_simp
      go_at_call 28
      refine (rqhave_calls _ r nd nv2 N J rv7 _ (HX.out.grow hHeld).rq (by omega) true).mono ?_
      rintro e w7 ⟨v7, rfl, ho7, hg7⟩
      obtain ⟨va, vc, rfl⟩ := own_slice ho7
      rw [HTl.out]
      clear ho7
      refine hK.out _ _ (hHeld.tr hg7) (fun hHeld => ?_)
      clear hK K
      try simp only [Act.put, List.setIfInBounds_toArray, List.set_cons_zero, List.set_cons_succ]
      refine wpAnyH_take (i := 11) (oi := ?_) (v := ?_) ?_ (by kernel_rfl) (by kernel_rfl) (by kernel_rfl) ?_ ?_ (by assumption) ?_; rotate_left 2; (focus (simp only [List.getElem?_toArray, List.getElem?_cons_succ, List.getElem?_cons_zero]; rfl)); (focus (exact fun _ _ _ h => h)); first | (focus (refine Or.inl ⟨by rfl, ?_⟩; intro w hSw; (try dsimp only at hSw); skip; (try dsimp only [Array.getD]); go_simp; (try with_reducible rfl))) | (focus (refine Or.inr ⟨by rfl, ?_⟩; rfl)) | fail "op 11"
      try simp only [Act.put, List.setIfInBounds_toArray, List.set_cons_zero, List.set_cons_succ]
      refine wpAnyH_take (i := 16) (oi := ?_) (v := ?_) ?_ (by kernel_rfl) (by kernel_rfl) (by kernel_rfl) ?_ ?_ (by assumption) ?_; rotate_left 2; (focus (simp only [List.getElem?_toArray, List.getElem?_cons_succ, List.getElem?_cons_zero]; rfl)); (focus (exact fun _ _ _ h => h)); first | (focus (refine Or.inl ⟨by rfl, ?_⟩; intro w hSw; (try dsimp only at hSw); have ht := Ht.out; (try dsimp only [Array.getD]); go_simp; (try with_reducible rfl))) | (focus (refine Or.inr ⟨by rfl, ?_⟩; rfl)) | fail "op 16"
      try simp only [Act.put, List.setIfInBounds_toArray, List.set_cons_zero, List.set_cons_succ]
      refine wpAnyH_take (i := 17) (oi := ?_) (v := ?_) ?_ (by kernel_rfl) (by kernel_rfl) (by kernel_rfl) ?_ ?_ (by assumption) ?_; rotate_left 2; (focus (simp only [List.getElem?_toArray, List.getElem?_cons_succ, List.getElem?_cons_zero]; rfl)); (focus (exact fun _ _ _ h => h)); first | (focus (refine Or.inl ⟨by rfl, ?_⟩; intro w hSw; (try dsimp only at hSw); have hbt := Hbt.out; (try dsimp only [Array.getD]); go_simp; (try with_reducible rfl))) | (focus (refine Or.inr ⟨by rfl, ?_⟩; rfl)) | fail "op 17"
      try simp only [Act.put, List.setIfInBounds_toArray, List.set_cons_zero, List.set_cons_succ]
      refine wpAnyH_take (i := 18) (oi := ?_) (v := ?_) ?_ (by kernel_rfl) (by kernel_rfl) (by kernel_rfl) ?_ ?_ (by assumption) ?_; rotate_left 2; (focus (simp only [List.getElem?_toArray, List.getElem?_cons_succ, List.getElem?_cons_zero]; rfl)); (focus (exact fun _ _ _ h => h)); first | (focus (refine Or.inl ⟨by rfl, ?_⟩; intro w hSw; (try dsimp only at hSw); (try dsimp only [Array.getD]); go_simp; (try with_reducible rfl))) | (focus (refine Or.inr ⟨by rfl, ?_⟩; rfl)) | fail "op 18"
      try simp only [Act.put, List.setIfInBounds_toArray, List.set_cons_zero, List.set_cons_succ]
      refine wpAnyH_done (by kernel_rfl) ?_ _
      have HX2 := Lib.hid (HX.out.grow hHeld)
      clear hHeld hz0 HX
      (try rw [Hbt.out])
      go_wp2_with fail
      go_roundw
      case rel => exact ⟨i + 1, J, rv7, by omega, by omega, by omega, by go_num, HL2, HX2⟩
      case measure => simp [intOf]; omega
    · have hex : i = acks.length ∨ (i < acks.length ∧ i = 20) := by omega
      clear hlt
      have HX := Lib.hid HQ.out
      clear HQ
      rcases hex with rfl | ⟨hl, rfl⟩
      all_goals
        (try have hl' : (20 : Int) < acks.length := by omega)
        go_wp2_with fail
        refine (missing_calls _ p nd nv N (some b) H HX.out.wr (by omega)).mono ?_
        rintro e wa ⟨va, rfl, hoa, hga⟩
        have RA := Lib.hid (rdRow_of_own hoa)
        replace HX := Lib.hid (HX.out.grow hga)
        clear hoa hga
        go_wp2_with fail
        refine (rqhave_calls _ r nd nv2 N H rv _ HX.out.rq (by omega) false).mono ?_
        rintro e wb ⟨vb, rfl, hob, hgb⟩
        replace RA := Lib.hid (RA.out.gr hgb)
        have RB := Lib.hid (rdRow_of_own hob)
        replace HX := Lib.hid (HX.out.grow hgb)
        clear hob hgb
        go_wp2_with fail
        refine (same_calls va vb (thoseL N H false) (thoseL N H false) _ RA.out RB.out (by have := thoseL_len N H false; omega)).mono ?_
        rintro e wc ⟨rfl, hgc⟩
        replace HX := Lib.hid (HX.out.grow hgc)
        rw [decide_eq_true (rfl : thoseL N H false = thoseL N H false)]
        clear hgc RA RB
        go_wp2_with fail
        go_ret
        exact ⟨rfl, HX.out.gr⟩
end Go.Proofs.Ytpnpnjfflblkpaa

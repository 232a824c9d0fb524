/- quorum: Answer again: the list that it keeps lies on a new row. -/
import Derived.Test.YtpnpnjfflblkpaaQwO
namespace Go.Proofs.Ytpnpnjfflblkpaa
open Go.RowKit Go.Maps Go.Sort Go.Shelf

theorem own_far {w : World} {base e k n : Nat} {v : Value} {xs : List Value} (h : w.ownsRow base e k v n xs) : ∀ a m c, v = .slice (some a) m c → 0 < n → base ≤ a.block := fun a m c ev h0 => by
  rcases h.2 with ⟨_, h2⟩ | ⟨g, cap, cur, hv, hb, _⟩
  · omega
  · rw [ev] at hv
    injection hv with e1 e2 e3
    injection e1 with e1
    rw [e1]
    exact hb
def AnsPost2 (w : World) (p : Nat) (nd : Int) (nv : Value) (N : List Int) (mb mg : Option Nat) (H : List Int) (gv : Int → Value) (gl : Int → List Pt) (n : Int) (l : List Pt) (e : Ending) (w' : World) : Prop :=
  e = .returned (.bool (decide (ackB N H n))) ∧ Bt (fun k => mb = some k ∨ mg = some k) w w' ∧
  if ackB N H n then ∃ v, (∀ a m c, v = .slice (some a) m c → 0 < (sortP l).length → w.heap.size ≤ a.block) ∧ RdAt w' p nd nv N mb mg (H ++ [n]) (fun k => if k = n then v else gv k) (fun k => if k = n then sortP l else gl k) else RdAt w' p nd nv N mb mg H gv gl
set_option maxRecDepth 100000 in
set_option maxHeartbeats 4000000 in
theorem answer2_calls (w : World) (p : Nat) (nd : Int) (nv : Value) (N : List Int) (mb mg : Option Nat) (H : List Int) (gv : Int → Value) (gl : Int → List Pt) (h : RdAt w p nd nv N mb mg H gv gl) (hN : N.length ≤ 1000) (hH : H.length ≤ 1000) (n : Int) (hn : I64 n)
    (v : Value) (l : List Pt) (hv : rdRow w 6 v l.length (encP l)) (hl : l.length ≤ 100000) :
    Calls Try.prog 17 #[.pointer (some ⟨p, 0, none⟩), .int .i64 n, v] w (AnsPost2 w p nd nv N mb mg H gv gl n l) := by
  have HA := Lib.hid (ack_calls w p nd nv N mb H h.wr hN hH n hn)
  have hmap : ∀ k, mb = some k → ∃ es c, w.heap[k]? = some (.map es c) := fun k e => by
    have := h.wr.map; rw [e] at this; exact this.map
  by_cases hb : ackB N H n
  · obtain ⟨bg, rfl⟩ := h.gt.some_ (List.length_pos_iff.2 (List.ne_nil_of_mem hb.1))
    have hgm := h.gt.got.map
    have HM := Lib.hid (fun w' (h1 : WrAt w' p nd nv N mb (if ackB N H n then H ++ [n] else H)) (h2 : Bt (fun k => mb = some k) w w') => show WrAt w' p nd nv N mb (H ++ [n]) ∧ GtAt w' p N (some bg) H gv gl ∧ rdRow w' 6 v l.length (encP l) from by
      rw [if_pos hb] at h1
      exact ⟨h1, h.gt.bt h2 hmap (fun b e1 e2 => h.ne b e2 e1), rd_map hv h2 hmap⟩)
    have hf : decide (ackB N H n) = true := decide_eq_true hb
    have Hf := Lib.hid hf
    have HH2 := Lib.hid hb
    have Hne := Lib.hid h.ne
    have Hmap := Lib.hid hmap
    clear hb h hv hmap hf hgm
    go_enter Try.func17, Try.ntmps17
    go_wp2_with (go_at_call 14; refine HA.out.mono ?_; rintro e w1 ⟨rfl, h1, h2⟩; rw [Hf.out]; have H1 := Lib.hid (HM.out _ h1 h2); have H2 := Lib.hid h2; clear h1 h2)
    have HPn := Lib.hid (fun w2 (hb : Bt (fun k => some bg = some k) w1 w2) => hb.cell (p := ⟨p, 3, none⟩) (fun e => map_ne_row (by injection e with e; rw [← e]; exact H1.out.2.1.got.map) H1.out.2.1.c3 rfl) H1.out.2.1.c3)
    refine region_start (S := fun w' => Bt (fun k => some bg = some k) w1 w') (by kernel_rfl) (by exact .of (Gr.dr Gr.rfl')) (fun wz hz0 hHeld => ?_)
    simp only [List.size_toArray, List.length_cons, List.length_nil, Nat.reduceAdd]
    refine wpAnyH_take (i := 0) (oi := ?_) (v := ?_) ?_ (by kernel_rfl) (by kernel_rfl) (by kernel_rfl) ?_ ?_ (by assumption) ?_; rotate_left 2; (focus (simp only [List.getElem?_toArray, List.getElem?_cons_zero]; rfl)); (focus (exact fun _ _ _ h => h)); first | (focus (refine Or.inl ⟨by rfl, ?_⟩; intro w hSw; (try dsimp only at hSw); (try dsimp only [Array.getD]); go_simp; (try with_reducible rfl))) | (focus (refine Or.inr ⟨by rfl, ?_⟩; rfl)) | fail "op 0"
    try simp only [Act.put, List.setIfInBounds_toArray, List.set_cons_zero, List.set_cons_succ]
    refine wpAnyH_take (i := 1) (oi := ?_) (v := ?_) ?_ (by kernel_rfl) (by kernel_rfl) (by kernel_rfl) ?_ ?_ (by assumption) ?_; rotate_left 2; (focus (simp only [List.getElem?_toArray, List.getElem?_cons_succ, List.getElem?_cons_zero]; rfl)); (focus (exact fun _ _ _ h => h)); first | (focus (refine Or.inl ⟨by rfl, ?_⟩; intro w hSw; (try dsimp only at hSw); (try dsimp only [Array.getD]); go_simp; (try with_reducible rfl))) | (focus (refine Or.inr ⟨by rfl, ?_⟩; rfl)) | fail "op 1"
    try simp only [Act.put, List.setIfInBounds_toArray, List.set_cons_zero, List.set_cons_succ]
    refine wpAnyH_take (i := 2) (oi := ?_) (v := ?_) ?_ (by kernel_rfl) (by kernel_rfl) (by kernel_rfl) ?_ ?_ (by assumption) ?_; rotate_left 2; (focus (simp only [List.getElem?_toArray, List.getElem?_cons_succ, List.getElem?_cons_zero]; rfl)); (focus (exact fun _ _ _ h => h)); first | (focus (refine Or.inl ⟨by rfl, ?_⟩; intro w hSw; (try dsimp only at hSw); (try dsimp only [Array.getD]); go_simp; (try with_reducible rfl))) | (focus (refine Or.inr ⟨by rfl, ?_⟩; rfl)) | fail "op 2"
    try simp only [Act.put, List.setIfInBounds_toArray, List.set_cons_zero, List.set_cons_succ]
    refine wpAnyH_take (i := 3) (oi := ?_) (v := ?_) ?_ (by kernel_rfl) (by kernel_rfl) (by kernel_rfl) ?_ ?_ (by assumption) ?_; rotate_left 2; (focus (simp only [List.getElem?_toArray, List.getElem?_cons_succ, List.getElem?_cons_zero]; rfl)); (focus (exact fun _ _ _ h => h)); first | (focus (refine Or.inl ⟨by rfl, ?_⟩; intro w hSw; (try dsimp only at hSw); have c3 := HPn.out _ hSw; (try dsimp only [Array.getD]); go_simp; (try with_reducible rfl))) | (focus (refine Or.inr ⟨by rfl, ?_⟩; rfl)) | fail "op 3"
    try simp only [Act.put, List.setIfInBounds_toArray, List.set_cons_zero, List.set_cons_succ]
    refine wpAnyH_take (i := 4) (oi := ?_) (v := ?_) ?_ (by kernel_rfl) (by kernel_rfl) (by kernel_rfl) ?_ ?_ (by assumption) ?_; rotate_left 2; (focus (simp only [List.getElem?_toArray, List.getElem?_cons_succ, List.getElem?_cons_zero]; rfl)); (focus (exact fun _ _ _ h => h)); first | (focus (refine Or.inl ⟨by rfl, ?_⟩; intro w hSw; (try dsimp only at hSw); (try dsimp only [Array.getD]); go_simp; (try with_reducible rfl))) | (focus (refine Or.inr ⟨by rfl, ?_⟩; rfl)) | fail "op 4"
    try simp only [Act.put, List.setIfInBounds_toArray, List.set_cons_zero, List.set_cons_succ]
    refine wpAnyH_take (i := 5) (oi := ?_) (v := ?_) ?_ (by kernel_rfl) (by kernel_rfl) (by kernel_rfl) ?_ ?_ (by assumption) ?_; rotate_left 2; (focus (simp only [List.getElem?_toArray, List.getElem?_cons_succ, List.getElem?_cons_zero]; rfl)); (focus (exact fun _ _ _ h => h)); first | (focus (refine Or.inl ⟨by rfl, ?_⟩; intro w hSw; (try dsimp only at hSw); (try dsimp only [Array.getD]); go_simp; (try with_reducible rfl))) | (focus (refine Or.inr ⟨by rfl, ?_⟩; rfl)) | fail "op 5"
    try simp only [Act.put, List.setIfInBounds_toArray, List.set_cons_zero, List.set_cons_succ]
    refine wpAnyH_ready (rs := [6]) (by kernel_rfl) (by simp) ?_
    refine AllReadyH.cons (o := ?_) ?_ (fun K hK => ?_) AllReadyH.nil; rotate_left; (focus (simp only [List.getElem?_toArray, List.getElem?_cons_succ, List.getElem?_cons_zero]; rfl))
    go_simp
    go_at_call 46
    refine (bsort_calls v l _ (H1.out.2.2.gr hz0) hl).mono ?_
    rintro e w6 ⟨v6, rfl, ho6, hg6⟩
    have G6 := Lib.hid (hz0.tr hg6)
    have O6 := Lib.hid (rdRow_of_own ho6)
    have F6 := Lib.hid (fun a m c e h0 => Nat.le_trans (Nat.le_trans H2.out.size hz0.size) (own_far ho6 a m c e h0))
    clear ho6 hg6
    refine hK.out _ _ (.of G6.out) (fun hHeld => ?_)
    clear hK K
    try simp only [Act.put, List.setIfInBounds_toArray, List.set_cons_zero, List.set_cons_succ]
    refine wpAnyH_ready (rs := [7]) (by kernel_rfl) (by simp) ?_
    refine AllReadyH.cons (o := ?_) ?_ (fun K hK => ?_) AllReadyH.nil; rotate_left; (focus (simp only [List.getElem?_toArray, List.getElem?_cons_succ, List.getElem?_cons_zero]; rfl))
    obtain ⟨w7, hrun, hm7, hg7⟩ := (H1.out.2.1.got.gr G6.out).store (T := 67) Try.underlying67 (by unfold maxLen; omega) hn v6
    refine wp_mapUpdate_run (.tmp 20) (.tmp 21) (.tmp 23) _ rfl _ _ _ rfl rfl rfl hrun ?_
    have B7 := Lib.hid (Bt.row (X := fun k => some bg = some k) hg7 rfl)
    have M7 := Lib.hid hm7
    clear hrun hm7 hg7
    refine hK.out _ _ (Bt.tr (.of G6.out) B7.out) (fun hHeld => ?_)
    clear hK K
    try simp only [Act.put, List.setIfInBounds_toArray, List.set_cons_zero, List.set_cons_succ]
    refine wpAnyH_done (by kernel_rfl) ?_ _
    have G := Lib.hid hHeld
    clear hHeld hz0
    go_wp2_with fail
    go_ret
    have hm6 : ∀ k, some bg = some k → ∃ es c, w6.heap[k]? = some (.map es c) := fun k e => by
      injection e with e; rw [← e]; exact (H1.out.2.1.got.gr G6.out).map
    have hW7 := (H1.out.1.gr G6.out).bt B7.out hm6 (fun b e1 e2 => Hne.out b e1 e2)
    have hin : n ∉ H := HH2.out.2
    refine ⟨by rw [Hf.out]; rfl, ((H2.out.mono (fun k _ e => .inl e)).tr (.of G6.out)).tr (B7.out.mono (fun k _ e => .inr e)), ?_⟩
    rw [if_pos HH2.out]
    refine ⟨v6, F6.out, hW7, ⟨G.out.cell (p := ⟨p, 3, none⟩) (fun e => map_ne_row (by injection e with e; rw [← e]; exact H1.out.2.1.got.map) H1.out.2.1.c3 rfl) H1.out.2.1.c3, ?_, fun k => ?_, fun k hk => ?_, (fun _ => ⟨_, rfl⟩)⟩, Hne.out⟩
    · have hm := M7.out
      have e0 : (gotF H gv n).isSome = false := by unfold gotF; rw [if_neg hin]; rfl
      rw [e0, gotF_snoc] at hm
      rw [List.length_append]
      exact hm
    · by_cases e : k = n
      · subst e
        simp only [if_true]
        exact rd_map O6.out B7.out hm6
      · simp only [if_neg e]
        exact rd_map ((H1.out.2.1.rows k).gr G6.out) B7.out hm6
    · have e : k ≠ n := fun e => hk (by rw [e]; simp)
      simp only [if_neg e]
      exact H1.out.2.1.nil_ k (fun hk' => hk (List.mem_append_left _ hk'))
  · have HP := Lib.hid (fun w' (h1 : WrAt w' p nd nv N mb (if ackB N H n then H ++ [n] else H)) (h2 : Bt (fun k => mb = some k) w w') => show AnsPost2 w p nd nv N mb mg H gv gl n l (.returned (.bool false)) w' from by
      rw [if_neg hb] at h1
      refine ⟨by rw [decide_eq_false hb], h2.mono (fun k _ e => .inl e), ?_⟩
      rw [if_neg hb]
      exact ⟨h1, h.gt.bt h2 hmap (fun b e1 e2 => h.ne b e2 e1), h.ne⟩)
    have hf : decide (ackB N H n) = false := decide_eq_false hb
    have Hf := Lib.hid hf
    clear hb h hv hmap hf
    go_enter Try.func17, Try.ntmps17
    go_wp2_with (go_at_call 14; refine HA.out.mono ?_; rintro e w1 ⟨rfl, h1, h2⟩; rw [Hf.out]; have H1 := Lib.hid h1; have H2 := Lib.hid h2; clear h1 h2)
    go_ret
    exact HP.out _ H1.out H2.out
end Go.Proofs.Ytpnpnjfflblkpaa

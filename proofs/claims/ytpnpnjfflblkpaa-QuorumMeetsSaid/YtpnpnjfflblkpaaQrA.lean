/- quorum: a read as it lies; New, Answer, Done, Have, Missing. -/
import Derived.Test.YtpnpnjfflblkpaaQwB
import Derived.Test.YtpnpnjfflblkpaaCoP
import Derived.Test.YtpnpnjfflblkpaaDgP
namespace Go.Proofs.Ytpnpnjfflblkpaa
open Go.RowKit Go.Maps Go.Sort Go.Shelf

theorem zeroPts (w : World) : (zeroValue 37).run Try.prog w = .ok (.slice none 0 0) w := Try.zeroValue37 w
def gotF (H : List Int) (gv : Int → Value) (k : Int) : Option Value := if k ∈ H then some (gv k) else none
/-- What was answered, as it lies: a map of lists of points. -/
structure GtAt (w : World) (p : Nat) (N : List Int) (mg : Option Nat) (H : List Int) (gv : Int → Value) (gl : Int → List Pt) : Prop where
  c3 : w.cell? ⟨p, 3, none⟩ = some (.map mg)
  got : ImAt (.slice none 0 0) w mg (gotF H gv) H.length
  rows : ∀ k, rdRow w 6 (gv k) (gl k).length (encP (gl k))
  nil_ : ∀ k, k ∉ H → gv k = .slice none 0 0
  some_ : 0 < N.length → ∃ b, mg = some b
structure RdAt (w : World) (p : Nat) (nd : Int) (nv : Value) (N : List Int) (mb mg : Option Nat) (H : List Int) (gv : Int → Value) (gl : Int → List Pt) : Prop where
  wr : WrAt w p nd nv N mb H
  gt : GtAt w p N mg H gv gl
  ne : ∀ b, mb = some b → mg ≠ some b
section
variable {w w' : World} {p : Nat} {nd : Int} {nv : Value} {N H : List Int} {mb mg : Option Nat} {gv : Int → Value} {gl : Int → List Pt}
theorem GtAt.look_ (h : GtAt w p N mg H gv gl) (k : Int) : (gotF H gv k).getD (.slice none 0 0) = gv k := by
  unfold gotF
  by_cases hk : k ∈ H
  · rw [if_pos hk]; rfl
  · rw [if_neg hk, h.nil_ k hk]; rfl
theorem GtAt.gl_nil (h : GtAt w p N mg H gv gl) {k : Int} (hk : k ∉ H) : gl k = [] := by
  obtain ⟨_, a, c, e, _⟩ := h.rows k
  rw [h.nil_ k hk] at e
  have := (Value.slice.inj e).2.1
  exact List.eq_nil_of_length_eq_zero this.symm
theorem GtAt.look (h : GtAt w p N mg H gv gl) {n : Int} (hn : I64 n) : (Instr.lookup 67 (.map mg) (.int .i64 n) false).run Try.prog w = .ok (gv n) w := by
  have := h.got.look (T := 67) Try.underlying67 zeroPts hn
  rwa [h.look_] at this
theorem GtAt.bt (h : GtAt w p N mg H gv gl) {X : Nat → Prop} (hb : Bt X w w') (hX : ∀ b, X b → ∃ es c, w.heap[b]? = some (.map es c)) (hm : ∀ b, mg = some b → ¬ X b) : GtAt w' p N mg H gv gl :=
  ⟨hb.cell (fun hx => map_ne_row (hX _ hx) h.c3 rfl) h.c3, h.got.bt hb hm, fun k => rd_map (h.rows k) hb hX, h.nil_, h.some_⟩
theorem GtAt.gr (h : GtAt w p N mg H gv gl) (hg : Gr w w') : GtAt w' p N mg H gv gl := ⟨keepc hg h.c3, h.got.gr hg, fun k => (h.rows k).gr hg, h.nil_, h.some_⟩
theorem RdAt.gr (h : RdAt w p nd nv N mb mg H gv gl) (hg : Gr w w') : RdAt w' p nd nv N mb mg H gv gl := ⟨h.wr.gr hg, h.gt.gr hg, h.ne⟩
end
set_option maxRecDepth 100000 in
set_option maxHeartbeats 4000000 in
theorem newread_calls (need : Int) (v : Value) (ns : List Int) (w : World) (hv : rdRow w 1 v ns.length (encI ns)) (hk : ns.length ≤ 1000000) :
    Calls Try.prog 12 #[.int .i64 need, v] w fun e w' => ∃ p nv b g, e = .returned (.pointer (some ⟨p, 0, none⟩)) ∧ RdAt w' p (mx need 1) nv (nodesOf ns) (some b) (some g) [] (fun _ => .slice none 0 0) (fun _ => []) ∧
      w.heap.size ≤ p ∧ w.heap.size ≤ b ∧ w.heap.size ≤ g ∧ Gr w w' := by
  have HN := Lib.hid (newwrite_calls need v ns w hv hk)
  have hmm : ∀ w, (Instr.makeMap 67 none).run Try.prog w = .ok (.map (some w.heap.size)) (w.alloc (.map #[] 0)) := fun w => by simp [Instr.makeMap]
  clear hv
  go_enter Try.func12, Try.ntmps12
  go_wp2_with fail
  refine HN.out.mono ?_
  rintro e w1 ⟨q, nv, b, rfl, hw, hb, hq1, hb1, hg⟩
  have HW := Lib.hid hw; have HB := Lib.hid hb; have HG := Lib.hid hg; have HQ := Lib.hid hq1; have HB1 := Lib.hid hb1
  have HIM := Lib.hid (ImAt.made (Z := .slice none 0 0) w1)
  clear hw hb hg hq1 hb1 HN
  have c0 := HW.out.c0; have c1 := HW.out.c1; have c2 := HW.out.c2
  go_wp2_with fail
  have hs : (w1.alloc (.map #[] 0)).heap.size = w1.heap.size + 1 := by simp
  have hb := heap_alloc_new (w1.alloc (.map #[] 0)) (.cells #[.int .i64 (mx need 1), nv, .map (some b), .map (some w1.heap.size)] 69)
  rw [hs] at hb
  have hG : Gr w1 ((w1.alloc (.map #[] 0)).alloc (.cells #[.int .i64 (mx need 1), nv, .map (some b), .map (some w1.heap.size)] 69)) := (Gr.rfl'.al _).al _
  have h2 := HIM.out.gr (Gr.al Gr.rfl' (.cells #[.int .i64 (mx need 1), nv, .map (some b), .map (some w1.heap.size)] 69))
  have hW := HW.out.gr hG
  have hbl := HW.out.map.lt b rfl
  have hsz := HG.out.size
  go_ret
  refine ⟨_, nv, b, _, rfl, ⟨⟨(cell_of_row _ _ 0 _ _ _ hb).trans rfl, (cell_of_row _ _ 1 _ _ _ hb).trans rfl, (cell_of_row _ _ 2 _ _ _ hb).trans rfl, hW.row, hW.map, hW.sub, hW.some_, hW.nI⟩, ⟨(cell_of_row _ _ 3 _ _ _ hb).trans rfl, ?_, (fun _ => ⟨rfl, none, 0, rfl, Nat.le_refl _, fun h => by simp at h⟩), (fun _ _ => rfl), (fun _ => ⟨_, rfl⟩)⟩, fun x hx e => ?_⟩, by omega, HB1.out, by omega, (HG.out.tr hG)⟩
  · have : gotF [] (fun _ => Value.slice none 0 0) = fun _ => none := by funext k; simp [gotF]
    rw [this]
    exact h2
  · injection hx with hx
    injection e with e
    omega
theorem gotF_snoc {H : List Int} {n : Int} {gv : Int → Value} {v : Value} : (fun j => if j = n then some v else gotF H gv j) = gotF (H ++ [n]) (fun k => if k = n then v else gv k) := by
  funext j
  unfold gotF
  by_cases h : j = n
  · subst h; simp
  · simp [h]
def AnsPost (w : World) (p : Nat) (nd : Int) (nv : Value) (N : List Int) (mb mg : Option Nat) (H : List Int) (gv : Int → Value) (gl : Int → List Pt) (n : Int) (l : List Pt) (e : Ending) (w' : World) : Prop :=
  e = .returned (.bool (decide (ackB N H n))) ∧ Bt (fun k => mb = some k ∨ mg = some k) w w' ∧
  if ackB N H n then ∃ v, RdAt w' p nd nv N mb mg (H ++ [n]) (fun k => if k = n then v else gv k) (fun k => if k = n then sortP l else gl k) else RdAt w' p nd nv N mb mg H gv gl
set_option maxRecDepth 100000 in
set_option maxHeartbeats 4000000 in
theorem answer_calls (w : World) (p : Nat) (nd : Int) (nv : Value) (N : List Int) (mb mg : Option Nat) (H : List Int) (gv : Int → Value) (gl : Int → List Pt) (h : RdAt w p nd nv N mb mg H gv gl) (hN : N.length ≤ 1000) (hH : H.length ≤ 1000) (n : Int) (hn : I64 n)
    (v : Value) (l : List Pt) (hv : rdRow w 6 v l.length (encP l)) (hl : l.length ≤ 100000) :
    Calls Try.prog 17 #[.pointer (some ⟨p, 0, none⟩), .int .i64 n, v] w (AnsPost w p nd nv N mb mg H gv gl n l) := by
  have HA := Lib.hid (ack_calls w p nd nv N mb H h.wr hN hH n hn)
  have hmap : ∀ k, mb = some k → ∃ es c, w.heap[k]? = some (.map es c) := fun k e => by
    have := h.wr.map; rw [e] at this; exact this.map
  by_cases hb : ackB N H n
  · obtain ⟨bg, rfl⟩ := h.gt.some_ (List.length_pos_iff.2 (List.ne_nil_of_mem hb.1))
    have hgm := h.gt.got.map
    have HM := Lib.hid (fun w' (h1 : WrAt w' p nd nv N mb (if ackB N H n then H ++ [n] else H)) (h2 : Bt (fun k => mb = some k) w w') => show WrAt w' p nd nv N mb (H ++ [n]) ∧ GtAt w' p N (some bg) H gv gl ∧ rdRow w' 6 v l.length (encP l) from by
      rw [if_pos hb] at h1
      exact ⟨h1, h.gt.bt h2 hmap (fun b e1 e2 => h.ne b e2 e1), rd_map hv h2 hmap⟩)
    have hf : decide (ackB N H n) = true := decide_eq_true hb
    have Hf := Lib.hid hf
    have HH2 := Lib.hid hb
    have Hne := Lib.hid h.ne
    have Hmap := Lib.hid hmap
    clear hb h hv hmap hf hgm
    go_enter Try.func17, Try.ntmps17
    go_wp2_with (go_at_call 14; refine HA.out.mono ?_; rintro e w1 ⟨rfl, h1, h2⟩; rw [Hf.out]; have H1 := Lib.hid (HM.out _ h1 h2); have H2 := Lib.hid h2; clear h1 h2)
    have HPn := Lib.hid (fun w2 (hb : Bt (fun k => some bg = some k) w1 w2) => hb.cell (p := ⟨p, 3, none⟩) (fun e => map_ne_row (by injection e with e; rw [← e]; exact H1.out.2.1.got.map) H1.out.2.1.c3 rfl) H1.out.2.1.c3)
    refine region_start (S := fun w' => Bt (fun k => some bg = some k) w1 w') (by kernel_rfl) (by exact .of (Gr.dr Gr.rfl')) (fun wz hz0 hHeld => ?_)
    simp only [List.size_toArray, List.length_cons, List.length_nil, Nat.reduceAdd]
    refine wpAnyH_take (i := 0) (oi := ?_) (v := ?_) ?_ (by kernel_rfl) (by kernel_rfl) (by kernel_rfl) ?_ ?_ (by assumption) ?_; rotate_left 2; (focus (simp only [List.getElem?_toArray, List.getElem?_cons_zero]; rfl)); (focus (exact fun _ _ _ h => h)); first | (focus (refine Or.inl ⟨by rfl, ?_⟩; intro w hSw; (try dsimp only at hSw); (try dsimp only [Array.getD]); go_simp; (try with_reducible rfl))) | (focus (refine Or.inr ⟨by rfl, ?_⟩; rfl)) | fail "op 0"
    try simp only [Act.put, List.setIfInBounds_toArray, List.set_cons_zero, List.set_cons_succ]
    refine wpAnyH_take (i := 1) (oi := ?_) (v := ?_) ?_ (by kernel_rfl) (by kernel_rfl) (by kernel_rfl) ?_ ?_ (by assumption) ?_; rotate_left 2; (focus (simp only [List.getElem?_toArray, List.getElem?_cons_succ, List.getElem?_cons_zero]; rfl)); (focus (exact fun _ _ _ h => h)); first | (focus (refine Or.inl ⟨by rfl, ?_⟩; intro w hSw; (try dsimp only at hSw); (try dsimp only [Array.getD]); go_simp; (try with_reducible rfl))) | (focus (refine Or.inr ⟨by rfl, ?_⟩; rfl)) | fail "op 1"
    try simp only [Act.put, List.setIfInBounds_toArray, List.set_cons_zero, List.set_cons_succ]
    refine wpAnyH_take (i := 2) (oi := ?_) (v := ?_) ?_ (by kernel_rfl) (by kernel_rfl) (by kernel_rfl) ?_ ?_ (by assumption) ?_; rotate_left 2; (focus (simp only [List.getElem?_toArray, List.getElem?_cons_succ, List.getElem?_cons_zero]; rfl)); (focus (exact fun _ _ _ h => h)); first | (focus (refine Or.inl ⟨by rfl, ?_⟩; intro w hSw; (try dsimp only at hSw); (try dsimp only [Array.getD]); go_simp; (try with_reducible rfl))) | (focus (refine Or.inr ⟨by rfl, ?_⟩; rfl)) | fail "op 2"
    try simp only [Act.put, List.setIfInBounds_toArray, List.set_cons_zero, List.set_cons_succ]
    refine wpAnyH_take (i := 3) (oi := ?_) (v := ?_) ?_ (by kernel_rfl) (by kernel_rfl) (by kernel_rfl) ?_ ?_ (by assumption) ?_; rotate_left 2; (focus (simp only [List.getElem?_toArray, List.getElem?_cons_succ, List.getElem?_cons_zero]; rfl)); (focus (exact fun _ _ _ h => h)); first | (focus (refine Or.inl ⟨by rfl, ?_⟩; intro w hSw; (try dsimp only at hSw); have c3 := HPn.out _ hSw; (try dsimp only [Array.getD]); go_simp; (try with_reducible rfl))) | (focus (refine Or.inr ⟨by rfl, ?_⟩; rfl)) | fail "op 3"
    try simp only [Act.put, List.setIfInBounds_toArray, List.set_cons_zero, List.set_cons_succ]
    refine wpAnyH_take (i := 4) (oi := ?_) (v := ?_) ?_ (by kernel_rfl) (by kernel_rfl) (by kernel_rfl) ?_ ?_ (by assumption) ?_; rotate_left 2; (focus (simp only [List.getElem?_toArray, List.getElem?_cons_succ, List.getElem?_cons_zero]; rfl)); (focus (exact fun _ _ _ h => h)); first | (focus (refine Or.inl ⟨by rfl, ?_⟩; intro w hSw; (try dsimp only at hSw); (try dsimp only [Array.getD]); go_simp; (try with_reducible rfl))) | (focus (refine Or.inr ⟨by rfl, ?_⟩; rfl)) | fail "op 4"
    try simp only [Act.put, List.setIfInBounds_toArray, List.set_cons_zero, List.set_cons_succ]
    refine wpAnyH_take (i := 5) (oi := ?_) (v := ?_) ?_ (by kernel_rfl) (by kernel_rfl) (by kernel_rfl) ?_ ?_ (by assumption) ?_; rotate_left 2; (focus (simp only [List.getElem?_toArray, List.getElem?_cons_succ, List.getElem?_cons_zero]; rfl)); (focus (exact fun _ _ _ h => h)); first | (focus (refine Or.inl ⟨by rfl, ?_⟩; intro w hSw; (try dsimp only at hSw); (try dsimp only [Array.getD]); go_simp; (try with_reducible rfl))) | (focus (refine Or.inr ⟨by rfl, ?_⟩; rfl)) | fail "op 5"
    try simp only [Act.put, List.setIfInBounds_toArray, List.set_cons_zero, List.set_cons_succ]
    refine wpAnyH_ready (rs := [6]) (by kernel_rfl) (by simp) ?_
    refine AllReadyH.cons (o := ?_) ?_ (fun K hK => ?_) AllReadyH.nil; rotate_left; (focus (simp only [List.getElem?_toArray, List.getElem?_cons_succ, List.getElem?_cons_zero]; rfl))
    go_simp
    go_at_call 46
    refine (bsort_calls v l _ (H1.out.2.2.gr hz0) hl).mono ?_
    rintro e w6 ⟨v6, rfl, ho6, hg6⟩
    have G6 := Lib.hid (hz0.tr hg6)
    have O6 := Lib.hid (rdRow_of_own ho6)
    clear ho6 hg6
    refine hK.out _ _ (.of G6.out) (fun hHeld => ?_)
    clear hK K
    try simp only [Act.put, List.setIfInBounds_toArray, List.set_cons_zero, List.set_cons_succ]
    refine wpAnyH_ready (rs := [7]) (by kernel_rfl) (by simp) ?_
    refine AllReadyH.cons (o := ?_) ?_ (fun K hK => ?_) AllReadyH.nil; rotate_left; (focus (simp only [List.getElem?_toArray, List.getElem?_cons_succ, List.getElem?_cons_zero]; rfl))
    obtain ⟨w7, hrun, hm7, hg7⟩ := (H1.out.2.1.got.gr G6.out).store (T := 67) Try.underlying67 (by unfold maxLen; omega) hn v6
    refine wp_mapUpdate_run (.tmp 20) (.tmp 21) (.tmp 23) _ rfl _ _ _ rfl rfl rfl hrun ?_
    have B7 := Lib.hid (Bt.row (X := fun k => some bg = some k) hg7 rfl)
    have M7 := Lib.hid hm7
    clear hrun hm7 hg7
    refine hK.out _ _ (Bt.tr (.of G6.out) B7.out) (fun hHeld => ?_)
    clear hK K
    try simp only [Act.put, List.setIfInBounds_toArray, List.set_cons_zero, List.set_cons_succ]
    refine wpAnyH_done (by kernel_rfl) ?_ _
    have G := Lib.hid hHeld
    clear hHeld hz0
    go_wp2_with fail
    go_ret
    have hm6 : ∀ k, some bg = some k → ∃ es c, w6.heap[k]? = some (.map es c) := fun k e => by
      injection e with e; rw [← e]; exact (H1.out.2.1.got.gr G6.out).map
    have hW7 := (H1.out.1.gr G6.out).bt B7.out hm6 (fun b e1 e2 => Hne.out b e1 e2)
    have hin : n ∉ H := HH2.out.2
    refine ⟨by rw [Hf.out]; rfl, ((H2.out.mono (fun k _ e => .inl e)).tr (.of G6.out)).tr (B7.out.mono (fun k _ e => .inr e)), ?_⟩
    rw [if_pos HH2.out]
    refine ⟨v6, hW7, ⟨G.out.cell (p := ⟨p, 3, none⟩) (fun e => map_ne_row (by injection e with e; rw [← e]; exact H1.out.2.1.got.map) H1.out.2.1.c3 rfl) H1.out.2.1.c3, ?_, fun k => ?_, fun k hk => ?_, (fun _ => ⟨_, rfl⟩)⟩, Hne.out⟩
    · have hm := M7.out
      have e0 : (gotF H gv n).isSome = false := by unfold gotF; rw [if_neg hin]; rfl
      rw [e0, gotF_snoc] at hm
      rw [List.length_append]
      exact hm
    · by_cases e : k = n
      · subst e
        simp only [if_true]
        exact rd_map O6.out B7.out hm6
      · simp only [if_neg e]
        exact rd_map ((H1.out.2.1.rows k).gr G6.out) B7.out hm6
    · have e : k ≠ n := fun e => hk (by rw [e]; simp)
      simp only [if_neg e]
      exact H1.out.2.1.nil_ k (fun hk' => hk (List.mem_append_left _ hk'))
  · have HP := Lib.hid (fun w' (h1 : WrAt w' p nd nv N mb (if ackB N H n then H ++ [n] else H)) (h2 : Bt (fun k => mb = some k) w w') => show AnsPost w p nd nv N mb mg H gv gl n l (.returned (.bool false)) w' from by
      rw [if_neg hb] at h1
      refine ⟨by rw [decide_eq_false hb], h2.mono (fun k _ e => .inl e), ?_⟩
      rw [if_neg hb]
      exact ⟨h1, h.gt.bt h2 hmap (fun b e1 e2 => h.ne b e2 e1), h.ne⟩)
    have hf : decide (ackB N H n) = false := decide_eq_false hb
    have Hf := Lib.hid hf
    clear hb h hv hmap hf
    go_enter Try.func17, Try.ntmps17
    go_wp2_with (go_at_call 14; refine HA.out.mono ?_; rintro e w1 ⟨rfl, h1, h2⟩; rw [Hf.out]; have H1 := Lib.hid h1; have H2 := Lib.hid h2; clear h1 h2)
    go_ret
    exact HP.out _ H1.out H2.out
set_option maxRecDepth 100000 in
theorem rhave_calls (w : World) (p : Nat) (nd : Int) (nv : Value) (N : List Int) (mb : Option Nat) (H : List Int) (h : WrAt w p nd nv N mb H) (hN : N.length ≤ 1000) :
    Calls Try.prog 32 #[.pointer (some ⟨p, 0, none⟩)] w (ThosePost w N H true) := by
  have HT := Lib.hid (have_calls w p nd nv N mb H h hN)
  clear h
  go_enter Try.func32, Try.ntmps32
  go_wp2_with fail
  refine HT.out.mono ?_
  rintro e w1 ⟨v1, rfl, h1⟩
  have H1 := Lib.hid (show ThosePost w N H true (.returned v1) w1 from ⟨v1, rfl, h1⟩)
  clear h1
  go_wp2_with fail
  go_ret
  exact H1.out
set_option maxRecDepth 100000 in
theorem rmissing_calls (w : World) (p : Nat) (nd : Int) (nv : Value) (N : List Int) (mb : Option Nat) (H : List Int) (h : WrAt w p nd nv N mb H) (hN : N.length ≤ 1000) :
    Calls Try.prog 33 #[.pointer (some ⟨p, 0, none⟩)] w (ThosePost w N H false) := by
  have HT := Lib.hid (missing_calls w p nd nv N mb H h hN)
  clear h
  go_enter Try.func33, Try.ntmps33
  go_wp2_with fail
  refine HT.out.mono ?_
  rintro e w1 ⟨v1, rfl, h1⟩
  have H1 := Lib.hid (show ThosePost w N H false (.returned v1) w1 from ⟨v1, rfl, h1⟩)
  clear h1
  go_wp2_with fail
  go_ret
  exact H1.out
set_option maxRecDepth 100000 in
theorem rdone_calls (w : World) (p : Nat) (nd : Int) (nv : Value) (N : List Int) (mb : Option Nat) (H : List Int) (h : WrAt w p nd nv N mb H) :
    Calls Try.prog 16 #[.pointer (some ⟨p, 0, none⟩)] w fun e w' => e = .returned (.bool (decide (0 < nd ∧ nd ≤ (H.length : Int)))) ∧ Gr w w' := by
  have HT := Lib.hid (done_calls w p nd nv N mb H h)
  generalize decide (0 < nd ∧ nd ≤ (H.length : Int)) = d at *
  clear h
  go_enter Try.func16, Try.ntmps16
  go_wp2_with (go_at_call 13; refine HT.out.mono ?_; rintro e w1 ⟨rfl, hg⟩; have HG := Lib.hid hg; clear hg)
  go_ret
  exact ⟨rfl, HG.out⟩
end Go.Proofs.Ytpnpnjfflblkpaa

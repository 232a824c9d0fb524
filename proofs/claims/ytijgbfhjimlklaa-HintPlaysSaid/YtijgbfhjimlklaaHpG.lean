/- The reference's hints: For: the plain law of putting in, and the walk. -/
import Derived.Test.YtijgbfhjimlklaaHpF
namespace Go.Proofs.Ytijgbfhjimlklaa
open Go.RowKit Go.Maps Go.Sort

/-- How many stand ahead of one that is put in. -/
def insA (qs : List Pt) (x : Pt) : Nat := (qs.takeWhile fun y => decide (ltH y x)).length
def insP (qs : List Pt) (x : Pt) : List Pt := qs.take (insA qs x) ++ x :: qs.drop (insA qs x)
theorem insA_le (qs : List Pt) (x : Pt) : insA qs x ≤ qs.length := (List.takeWhile_sublist _).length_le
theorem insA_lt {x : Pt} : ∀ {qs : List Pt} {j : Nat} (hj : j < qs.length), j < insA qs x → ltH qs[j] x
  | [], _, hj, _ => by simp at hj
  | y :: r, 0, _, hl => by
    unfold insA at hl
    by_cases h : ltH y x
    · exact h
    · rw [List.takeWhile_cons_of_neg (by simpa using h)] at hl; simp at hl
  | y :: r, j + 1, hj, hl => by
    unfold insA at hl
    by_cases h : ltH y x
    · rw [List.takeWhile_cons_of_pos (by simpa using h)] at hl
      exact insA_lt (qs := r) (by simpa using hj) (by simpa [insA] using hl)
    · rw [List.takeWhile_cons_of_neg (by simpa using h)] at hl; simp at hl
theorem insA_stop {x : Pt} : ∀ {qs : List Pt} (h : insA qs x < qs.length), ¬ ltH qs[insA qs x] x
  | [], h => by simp at h
  | y :: r, h => by
    by_cases hy : ltH y x
    · have e : insA (y :: r) x = insA r x + 1 := by unfold insA; rw [List.takeWhile_cons_of_pos (by simpa using hy)]; rfl
      have h' : insA r x < r.length := by rw [e] at h; simpa using h
      have := insA_stop (x := x) h'
      intro hle; apply this
      simpa [e] using hle
    · have e : insA (y :: r) x = 0 := by unfold insA; rw [List.takeWhile_cons_of_neg (by simpa using hy)]; rfl
      intro hle; apply hy
      simpa [e] using hle
theorem insA_is {qs : List Pt} {x : Pt} {k : Nat} (hk : k ≤ qs.length) (h1 : ∀ j (hj : j < qs.length), j < k → ltH qs[j] x) (h2 : ∀ h : k < qs.length, ¬ ltH qs[k] x) : insA qs x = k := by
  rcases Nat.lt_trichotomy (insA qs x) k with h | h | h
  · exact absurd (h1 _ (by omega) h) (insA_stop (by omega))
  · exact h
  · exact absurd (insA_lt (by have := insA_le qs x; omega) h) (h2 (by have := insA_le qs x; omega))
theorem insP_perm (qs : List Pt) (x : Pt) : (insP qs x).Perm (qs ++ [x]) := by
  unfold insP
  have h : (qs.take (insA qs x) ++ x :: qs.drop (insA qs x)).Perm (x :: (qs.take (insA qs x) ++ qs.drop (insA qs x))) := List.perm_middle
  rw [List.take_append_drop] at h
  exact h.trans (List.perm_append_comm (l₁ := [x]) (l₂ := qs))
theorem insP_len (qs : List Pt) (x : Pt) : (insP qs x).length = qs.length + 1 := by rw [(insP_perm qs x).length_eq]; simp
theorem insP_sorted {qs : List Pt} {x : Pt} (hs : qs.Pairwise fun a b => ¬ ltH b a) : (insP qs x).Pairwise fun a b => ¬ ltH b a := by
  unfold insP
  have hl : ∀ y ∈ qs.take (insA qs x), ¬ ltH x y := fun y hy => by
    obtain ⟨j, hj, rfl⟩ := List.getElem_of_mem hy
    rw [List.getElem_take]
    rw [List.length_take] at hj
    have := insA_lt (qs := qs) (x := x) (by omega) (show j < insA qs x by omega)
    exact fun z => ltH_irr _ (ltH_tr z this)
  have hr : ∀ y ∈ qs.drop (insA qs x), ¬ ltH y x := fun y hy => by
    obtain ⟨j, hj, rfl⟩ := List.getElem_of_mem hy
    rw [List.getElem_drop]
    rw [List.length_drop] at hj
    have h0 : insA qs x < qs.length := by omega
    have h1 := insA_stop h0
    by_cases e : j = 0
    · subst e; exact h1
    · have h2 := List.pairwise_iff_getElem.1 hs (insA qs x) (insA qs x + j) h0 (by omega) (by omega)
      intro z
      rcases ltH_tri qs[insA qs x] x with q | q | q
      · exact h1 q
      · rw [q] at h2; exact h2 z
      · exact h2 (ltH_tr z q)
  rw [List.pairwise_append]
  refine ⟨hs.sublist (List.take_sublist _ _), ?_, ?_⟩
  · rw [List.pairwise_cons]
    exact ⟨fun y hy => hr y hy, hs.sublist (List.drop_sublist _ _)⟩
  · intro a ha b hb
    rcases List.mem_cons.1 hb with rfl | hb
    · exact hl a ha
    · intro z
      rcases ltH_tri a x with q | q | q
      · exact hr b hb (ltH_tr z q)
      · rw [q] at z; exact hr b hb z
      · exact hl a ha q
/-- What is told of the first i hints. -/
structure ForI (L : List Hk) (node : Int) (i : Nat) (qs : List Pt) : Prop where
  perm : qs.Perm (pointsOf (L.take i) node)
  le : qs.Pairwise fun a b => ¬ ltH b a
theorem ForI.zero (L : List Hk) (node : Int) : ForI L node 0 [] := ⟨List.Perm.refl _, List.Pairwise.nil⟩
theorem ForI.skip {L : List Hk} {node : Int} {i : Nat} {qs : List Pt} (h : ForI L node i qs) (hi : i < L.length) (hn : L[i].2 ≠ node) : ForI L node (i + 1) qs := by
  refine ⟨?_, h.le⟩
  rw [List.take_succ_eq_append_getElem hi, pointsOf_no hn]
  exact h.perm
theorem ForI.put {L : List Hk} {node : Int} {i : Nat} {qs : List Pt} (h : ForI L node i qs) (hi : i < L.length) (hn : L[i].2 = node) : ForI L node (i + 1) (insP qs L[i].1) := by
  refine ⟨?_, insP_sorted h.le⟩
  rw [List.take_succ_eq_append_getElem hi, pointsOf_yes hn]
  exact (insP_perm _ _).trans (h.perm.append_right _)
theorem ForI.len {L : List Hk} {node : Int} {i : Nat} {qs : List Pt} (h : ForI L node i qs) : qs.length ≤ L.length := by
  rw [h.perm.length_eq]
  exact Nat.le_trans (pointsOf_len _ _) (by rw [List.length_take]; omega)
theorem ForI.all {L : List Hk} {node : Int} {qs : List Pt} (h : ForI L node L.length qs) : srtH (pointsOf L node) = qs := by
  have := h.perm
  rw [List.take_length] at this
  exact srtH_eq this h.le
theorem insP_is {qs : List Pt} {x : Pt} {m : Nat} (h : insA qs x = m) : qs.take m ++ [x] ++ qs.drop m = insP qs x := by unfold insP; rw [h]; simp
theorem ptC_len (x : Pt) : (ptC x).length = 6 := rfl
theorem sizeP (w : World) : (sizeOf 31).run Try.prog w = .ok 6 w := by kernel_rfl
set_option maxRecDepth 100000 in
set_option maxHeartbeats 8000000 in
theorem rfor_calls (w : World) (r N : Nat) (m : Int) (v : Value) (L : List Hk) (h : RfAt w r N m v L) (hL : L.length ≤ 1000) (node most : Int) :
    Calls Try.prog 27 #[.pointer (some ⟨r, 0, none⟩), .int .i64 node, .int .i64 most] w fun e w' => ∃ v', e = .returned v' ∧ rdRow w' 6 v' (forL L node most).length (encP (forL L node most)) ∧ Gr w w' := by
  obtain ⟨a, c, rfl⟩ := own_slice h.row
  have H := Lib.hid h
  obtain ⟨R, eR⟩ : ∃ R, w.heap.size = R := ⟨_, rfl⟩
  have ER := Lib.hid eR
  clear h eR
  have HF : Hid (∀ qs, ForI L node L.length qs → srtH (pointsOf L node) = qs) := Lib.hid fun qs z => z.all
  have HFl : Hid (forL L node most = (srtH (pointsOf L node)).take most.toNat) := Lib.hid rfl
  generalize forL L node most = FL at *
  go_enter Try.func27, Try.ntmps27
  go_wp2_with fail
  go_loopw [7, 8] (fun ov iv wr => ∃ (i : Nat) (qs : List Pt), i ≤ L.length ∧ iv = .int .i64 i ∧ Hid (ForI L node i qs) ∧ Hid (wr.ownsRow R 31 6 ov qs.length (encP qs)) ∧ Hid (Gr w wr)) (fun _ iv _ => L.length - (intOf iv).toNat)
  case atStart => exact ⟨0, [], Nat.zero_le _, rfl, Lib.hid (ForI.zero L node), Lib.hid (World.ownsRow_nil _ _ _ _), Lib.hid Gr.rfl'⟩
  case round =>
    obtain ⟨i, qs, hi, rfl, HI, HO, HG⟩ := hrel
    have c1 := (H.out.gr HG.out).c1
    obtain ⟨ua, uc, rfl⟩ := own_slice HO.out
    have hql : qs.length ≤ 1000 := Nat.le_trans HI.out.len hL
    by_cases hlt : i < L.length
    · have hlt' : (i : Int) < L.length := by omega
      obtain ⟨bl, ol, _, e1, _, hrg⟩ := rd_range (fun y : Hk => hkC y) 7 (fun _ => rfl) (rdRow_of_own (own_gr H.out.row HG.out)) (by omega)
      replace e1 := (Value.slice.inj e1).1
      subst e1
      have Hq := Lib.hid (hrg i hlt)
      have Hsk := Lib.hid (fun (z : L[i].2 ≠ node) => HI.out.skip hlt z)
      have Hpt := Lib.hid (fun (z : L[i].2 = node) => HI.out.put hlt z)
      obtain ⟨q, eq⟩ : ∃ q, L[i] = q := ⟨_, rfl⟩
      rw [eq] at Hq Hsk Hpt
      have cq : wr.cell? ⟨bl, ol + i * 7 + 6, none⟩ = some (.int .i64 q.2) := Hq.out 6 _ rfl
      clear hrg eq
      by_cases hn : q.2 = node
      · have HI2 := Lib.hid (Hpt.out hn)
        rw [hn] at cq
        clear hn Hsk Hpt
        obtain ⟨wo, rfl⟩ : ∃ wo : World, wo = wr := ⟨_, rfl⟩
        obtain ⟨x, ex⟩ : ∃ x, q.1 = x := ⟨_, rfl⟩
        have Hx := Lib.hid (hk_pt Hq.out)
        rw [ex] at Hx HI2
        clear ex Hq
        go_wp2_with fail
        go_loopw [9] (fun av wr => ∃ k : Nat, k ≤ qs.length ∧ av = .int .i64 k ∧ Hid (∀ j (hj : j < qs.length), j < k → ltH qs[j] x) ∧ Hid (Gr wo wr)) (fun av _ => qs.length - (intOf av).toNat)
        case atStart => exact ⟨0, Nat.zero_le _, rfl, Lib.hid (fun j _ z => absurd z (by omega)), Lib.hid Gr.rfl'⟩
        case round =>
          obtain ⟨k, hk, rfl, HA, HG6⟩ := hrel
          have H7 := Lib.hid (H.out.gr (HG.out.tr HG6.out))
          have HO7 := Lib.hid (own_gr HO.out HG6.out)
          have Hx7 := Lib.hid (rangeAt_gr HG6.out Hx.out)
          clear c1 cq
          have hcs : (∃ hk : k < qs.length, ltH qs[k] x) ∨ ((∃ hk : k < qs.length, ¬ ltH qs[k] x) ∨ k = qs.length) := by
            by_cases h : k < qs.length
            · by_cases h2 : ltH qs[k] x
              · exact .inl ⟨h, h2⟩
              · exact .inr (.inl ⟨h, h2⟩)
            · exact .inr (.inr (by omega))
          rcases hcs with ⟨hkl, hlx⟩ | hend
          · have hkl' : (k : Int) < qs.length := by omega
            obtain ⟨bp, op, _, e1, _, hrg⟩ := rd_range ptC 6 (fun _ => rfl) (rdRow_of_own HO7.out) (by omega)
            replace e1 := (Value.slice.inj e1).1
            subst e1
            have Hz := Lib.hid (hrg k hkl)
            have HA2 := Lib.hid (show ∀ j (hj : j < qs.length), j < k + 1 → ltH qs[j] x from fun j hj h => by
              by_cases e : j = k
              · subst e; exact hlx
              · exact HA.out j hj (by omega))
            obtain ⟨z, ez⟩ : ∃ z, qs[k] = z := ⟨_, rfl⟩
            rw [ez] at Hz hlx
            have Hlx := Lib.hid hlx
            clear hrg ez hlx
            go_upto_region 8 with (fail)
            refine region_start (S := fun w' => Gr wr w') (by kernel_rfl) (by exact Gr.dr Gr.rfl') (fun wz hz0 hHeld => ?_)
            simp only [List.size_toArray, List.length_cons, List.length_nil, Nat.reduceAdd]
            refine wpAnyH_take (i := 0) (oi := ?_) (v := ?_) ?_ (by kernel_rfl) (by kernel_rfl) (by kernel_rfl) ?_ ?_ (by assumption) ?_; rotate_left 2; (focus (simp only [List.getElem?_toArray, List.getElem?_cons_zero]; rfl)); (focus (exact fun _ _ _ h => h)); first | (focus (refine Or.inl ⟨by rfl, ?_⟩; intro w hSw; (try dsimp only at hSw); (try dsimp only [Array.getD]); go_simp; (try with_reducible rfl))) | (focus (refine Or.inr ⟨by rfl, ?_⟩; rfl)) | fail "op 0"
            try simp only [Act.put, List.setIfInBounds_toArray, List.set_cons_zero, List.set_cons_succ]
            refine wpAnyH_take (i := 1) (oi := ?_) (v := ?_) ?_ (by kernel_rfl) (by kernel_rfl) (by kernel_rfl) ?_ ?_ (by assumption) ?_; rotate_left 2; (focus (simp only [List.getElem?_toArray, List.getElem?_cons_succ, List.getElem?_cons_zero]; rfl)); (focus (exact fun _ _ _ h => h)); first | (focus (refine Or.inl ⟨by rfl, ?_⟩; intro w hSw; (try dsimp only at hSw); (try dsimp only [Array.getD]); go_simp; (try with_reducible rfl))) | (focus (refine Or.inr ⟨by rfl, ?_⟩; rfl)) | fail "op 1"
            try simp only [Act.put, List.setIfInBounds_toArray, List.set_cons_zero, List.set_cons_succ]
            refine wpAnyH_take (i := 2) (oi := ?_) (v := ?_) ?_ (by kernel_rfl) (by kernel_rfl) (by kernel_rfl) ?_ ?_ (by assumption) ?_; rotate_left 2; (focus (simp only [List.getElem?_toArray, List.getElem?_cons_succ, List.getElem?_cons_zero]; rfl)); (focus (exact fun _ _ _ h => h)); first | (focus (refine Or.inl ⟨by rfl, ?_⟩; intro w hSw; (try dsimp only at hSw); (try dsimp only [Array.getD]); go_simp; (try with_reducible rfl))) | (focus (refine Or.inr ⟨by rfl, ?_⟩; rfl)) | fail "op 2"
            try simp only [Act.put, List.setIfInBounds_toArray, List.set_cons_zero, List.set_cons_succ]
            refine wpAnyH_take (i := 3) (oi := ?_) (v := ?_) ?_ (by kernel_rfl) (by kernel_rfl) (by kernel_rfl) ?_ ?_ (by assumption) ?_; rotate_left 2; (focus (simp only [List.getElem?_toArray, List.getElem?_cons_succ, List.getElem?_cons_zero]; rfl)); (focus (exact fun _ _ _ h => h)); first | (focus (refine Or.inl ⟨by rfl, ?_⟩; intro w hSw; (try dsimp only at hSw); refine (exec_load_mid 31 (.tmp 37) (by rfl) bp (op + k * 6) (by rfl) (ptC z) _ (rangeAt_gr hSw Hz.out) Try.underlying31 rfl info_pt).trans ?_; with_reducible rfl)) | (focus (refine Or.inr ⟨by rfl, ?_⟩; rfl)) | fail "op 3"
            try simp only [Act.put, List.setIfInBounds_toArray, List.set_cons_zero, List.set_cons_succ]
            refine wpAnyH_take (i := 4) (oi := ?_) (v := ?_) ?_ (by kernel_rfl) (by kernel_rfl) (by kernel_rfl) ?_ ?_ (by assumption) ?_; rotate_left 2; (focus (simp only [List.getElem?_toArray, List.getElem?_cons_succ, List.getElem?_cons_zero]; rfl)); (focus (exact fun _ _ _ h => h)); first | (focus (refine Or.inl ⟨by rfl, ?_⟩; intro w hSw; (try dsimp only at hSw); (try dsimp only [Array.getD]); go_simp; (try with_reducible rfl))) | (focus (refine Or.inr ⟨by rfl, ?_⟩; rfl)) | fail "op 4"
            try simp only [Act.put, List.setIfInBounds_toArray, List.set_cons_zero, List.set_cons_succ]
            refine wpAnyH_take (i := 5) (oi := ?_) (v := ?_) ?_ (by kernel_rfl) (by kernel_rfl) (by kernel_rfl) ?_ ?_ (by assumption) ?_; rotate_left 2; (focus (simp only [List.getElem?_toArray, List.getElem?_cons_succ, List.getElem?_cons_zero]; rfl)); (focus (exact fun _ _ _ h => h)); first | (focus (refine Or.inl ⟨by rfl, ?_⟩; intro w hSw; (try dsimp only at hSw); (try dsimp only [Array.getD]); go_simp; (try with_reducible rfl))) | (focus (refine Or.inr ⟨by rfl, ?_⟩; rfl)) | fail "op 5"
            try simp only [Act.put, List.setIfInBounds_toArray, List.set_cons_zero, List.set_cons_succ]
            refine wpAnyH_take (i := 6) (oi := ?_) (v := ?_) ?_ (by kernel_rfl) (by kernel_rfl) (by kernel_rfl) ?_ ?_ (by assumption) ?_; rotate_left 2; (focus (simp only [List.getElem?_toArray, List.getElem?_cons_succ, List.getElem?_cons_zero]; rfl)); (focus (exact fun _ _ _ h => h)); first | (focus (refine Or.inl ⟨by rfl, ?_⟩; intro w hSw; (try dsimp only at hSw); (try dsimp only [Array.getD]); go_simp; (try with_reducible rfl))) | (focus (refine Or.inr ⟨by rfl, ?_⟩; rfl)) | fail "op 6"
            try simp only [Act.put, List.setIfInBounds_toArray, List.set_cons_zero, List.set_cons_succ]
            refine wpAnyH_take (i := 7) (oi := ?_) (v := ?_) ?_ (by kernel_rfl) (by kernel_rfl) (by kernel_rfl) ?_ ?_ (by assumption) ?_; rotate_left 2; (focus (simp only [List.getElem?_toArray, List.getElem?_cons_succ, List.getElem?_cons_zero]; rfl)); (focus (exact fun _ _ _ h => h)); first | (focus (refine Or.inl ⟨by rfl, ?_⟩; intro w hSw; (try dsimp only at hSw); have c1 := (H7.out.gr hSw).c1; (try dsimp only [Array.getD]); go_simp; (try with_reducible rfl))) | (focus (refine Or.inr ⟨by rfl, ?_⟩; rfl)) | fail "op 7"
            try simp only [Act.put, List.setIfInBounds_toArray, List.set_cons_zero, List.set_cons_succ]
            refine wpAnyH_take (i := 8) (oi := ?_) (v := ?_) ?_ (by kernel_rfl) (by kernel_rfl) (by kernel_rfl) ?_ ?_ (by assumption) ?_; rotate_left 2; (focus (simp only [List.getElem?_toArray, List.getElem?_cons_succ, List.getElem?_cons_zero]; rfl)); (focus (exact fun _ _ _ h => h)); first | (focus (refine Or.inl ⟨by rfl, ?_⟩; intro w hSw; (try dsimp only at hSw); (try dsimp only [Array.getD]); go_simp; (try with_reducible rfl))) | (focus (refine Or.inr ⟨by rfl, ?_⟩; rfl)) | fail "op 8"
            try simp only [Act.put, List.setIfInBounds_toArray, List.set_cons_zero, List.set_cons_succ]
            refine wpAnyH_take (i := 9) (oi := ?_) (v := ?_) ?_ (by kernel_rfl) (by kernel_rfl) (by kernel_rfl) ?_ ?_ (by assumption) ?_; rotate_left 2; (focus (simp only [List.getElem?_toArray, List.getElem?_cons_succ, List.getElem?_cons_zero]; rfl)); (focus (exact fun _ _ _ h => h)); first | (focus (refine Or.inl ⟨by rfl, ?_⟩; intro w hSw; (try dsimp only at hSw); (try dsimp only [Array.getD]); go_simp; (try with_reducible rfl))) | (focus (refine Or.inr ⟨by rfl, ?_⟩; rfl)) | fail "op 9"
            try simp only [Act.put, List.setIfInBounds_toArray, List.set_cons_zero, List.set_cons_succ]
            refine wpAnyH_take (i := 10) (oi := ?_) (v := ?_) ?_ (by kernel_rfl) (by kernel_rfl) (by kernel_rfl) ?_ ?_ (by assumption) ?_; rotate_left 2; (focus (simp only [List.getElem?_toArray, List.getElem?_cons_succ, List.getElem?_cons_zero]; rfl)); (focus (exact fun _ _ _ h => h)); first | (focus (refine Or.inl ⟨by rfl, ?_⟩; intro w hSw; (try dsimp only at hSw); (try dsimp only [Array.getD]); go_simp; (try with_reducible rfl))) | (focus (refine Or.inr ⟨by rfl, ?_⟩; rfl)) | fail "op 10"
            try simp only [Act.put, List.setIfInBounds_toArray, List.set_cons_zero, List.set_cons_succ]
            refine wpAnyH_take (i := 11) (oi := ?_) (v := ?_) ?_ (by kernel_rfl) (by kernel_rfl) (by kernel_rfl) ?_ ?_ (by assumption) ?_; rotate_left 2; (focus (simp only [List.getElem?_toArray, List.getElem?_cons_succ, List.getElem?_cons_zero]; rfl)); (focus (exact fun _ _ _ h => h)); first | (focus (refine Or.inl ⟨by rfl, ?_⟩; intro w hSw; (try dsimp only at hSw); refine (exec_load_mid 31 (.tmp 45) (by rfl) bl (ol + i * 7) (by rfl) (ptC x) _ (rangeAt_gr hSw Hx7.out) Try.underlying31 rfl info_pt).trans ?_; with_reducible rfl)) | (focus (refine Or.inr ⟨by rfl, ?_⟩; rfl)) | fail "op 11"
            try simp only [Act.put, List.setIfInBounds_toArray, List.set_cons_zero, List.set_cons_succ]
            refine wpAnyH_ready (rs := [12]) (by kernel_rfl) (by simp) ?_
            refine AllReadyH.cons (o := ?_) ?_ (fun K hK => ?_) AllReadyH.nil; rotate_left; (focus (simp only [List.getElem?_toArray, List.getElem?_cons_succ, List.getElem?_cons_zero]; rfl))
            go_simp
            go_at_call 41
            refine (ahead_calls z x _).mono ?_
            rintro e w8 ⟨rfl, hg8⟩
            rw [decide_eq_true Hlx.out]
            refine hK.out _ _ (hHeld.tr hg8) (fun hHeld => ?_)
            clear hK K
            try simp only [Act.put, List.setIfInBounds_toArray, List.set_cons_zero, List.set_cons_succ]
            refine wpAnyH_take (i := 13) (oi := ?_) (v := ?_) ?_ (by kernel_rfl) (by kernel_rfl) (by kernel_rfl) ?_ ?_ (by assumption) ?_; rotate_left 2; (focus (simp only [List.getElem?_toArray, List.getElem?_cons_succ, List.getElem?_cons_zero]; rfl)); (focus (exact fun _ _ _ h => h)); first | (focus (refine Or.inl ⟨by rfl, ?_⟩; intro w hSw; (try dsimp only at hSw); (try dsimp only [Array.getD]); go_simp; (try with_reducible rfl))) | (focus (refine Or.inr ⟨by rfl, ?_⟩; rfl)) | fail "op 13"
            try simp only [Act.put, List.setIfInBounds_toArray, List.set_cons_zero, List.set_cons_succ]
            refine wpAnyH_done (by kernel_rfl) ?_ _
            have G8 := Lib.hid (HG6.out.tr hHeld)
            clear hHeld hz0
            go_wp2_with fail
            go_roundw
            case rel => exact ⟨k + 1, by omega, by go_num, HA2, G8⟩
            case measure => simp [intOf]; omega
          · have hat : insA qs x = k := insA_is hk HA.out (fun h => by
              rcases hend with ⟨_, h2⟩ | h2
              · exact h2
              · omega)
            have Hfin := Lib.hid (insP_is hat)
            have hinl := insP_len qs x
            clear hat
            obtain ⟨qs', eqs⟩ : ∃ l, insP qs x = l := ⟨_, rfl⟩
            rw [eqs] at Hfin HI2 hinl
            have hTl : (qs.take k).length = k := by rw [List.length_take]; omega
            have hDl : (qs.drop k).length = qs.length - k := List.length_drop
            obtain ⟨T, eT⟩ : ∃ l, qs.take k = l := ⟨_, rfl⟩
            obtain ⟨D, eD⟩ : ∃ l, qs.drop k = l := ⟨_, rfl⟩
            have HT := Lib.hid eT; have HD := Lib.hid eD
            rw [eT] at Hfin hTl
            rw [eD] at Hfin hDl
            clear eqs eT eD
            have HTl := Lib.hid hTl; have HDl := Lib.hid hDl
            have hT9 : T.length ≤ 1000 := by omega
            have hD9 : D.length ≤ 1000 := by omega
            have HRT := Lib.hid (fun (W : World) (hg : Gr wo W) => rd_cut (enc := ptC) (k := 6) ptC_len (rdRow_of_own (own_gr HO.out hg)) hk)
            rw [HT.out] at HRT
            have HRD := Lib.hid (fun (W : World) (hg : Gr wo W) => rdRow_of_own (own_gr HO.out hg))
            have huc : qs.length ≤ uc := by obtain ⟨_, a', c', e, h, _⟩ := rdRow_of_own HO.out; cases e; exact h
            have hkc : (k : Int) ≤ uc := by omega
            have HRw := Lib.hid (show R ≤ wo.heap.size by have h1 := HG.out.size; have h2 := ER.out; omega)
            have Hinl := Lib.hid hinl
            clear hTl hDl huc hinl
            rcases hend with ⟨hkl, hlx⟩ | hend
            · have hkl' : (k : Int) < qs.length := by omega
              obtain ⟨bp, op, _, e1, _, hrg⟩ := rd_range ptC 6 (fun _ => rfl) (rdRow_of_own HO7.out) (by omega)
              replace e1 := (Value.slice.inj e1).1
              subst e1
              have Hz := Lib.hid (hrg k hkl)
              obtain ⟨z, ez⟩ : ∃ z, qs[k] = z := ⟨_, rfl⟩
              rw [ez] at Hz hlx
              have Hlx := Lib.hid hlx
              clear hrg ez hlx
              go_upto_region 8 with (fail)
              refine region_start (S := fun w' => Gr wr w') (by kernel_rfl) (by exact Gr.dr Gr.rfl') (fun wz hz0 hHeld => ?_)
              simp only [List.size_toArray, List.length_cons, List.length_nil, Nat.reduceAdd]
              refine wpAnyH_take (i := 0) (oi := ?_) (v := ?_) ?_ (by kernel_rfl) (by kernel_rfl) (by kernel_rfl) ?_ ?_ (by assumption) ?_; rotate_left 2; (focus (simp only [List.getElem?_toArray, List.getElem?_cons_zero]; rfl)); (focus (exact fun _ _ _ h => h)); first | (focus (refine Or.inl ⟨by rfl, ?_⟩; intro w hSw; (try dsimp only at hSw); (try dsimp only [Array.getD]); go_simp; (try with_reducible rfl))) | (focus (refine Or.inr ⟨by rfl, ?_⟩; rfl)) | fail "op 0"
              try simp only [Act.put, List.setIfInBounds_toArray, List.set_cons_zero, List.set_cons_succ]
              refine wpAnyH_take (i := 1) (oi := ?_) (v := ?_) ?_ (by kernel_rfl) (by kernel_rfl) (by kernel_rfl) ?_ ?_ (by assumption) ?_; rotate_left 2; (focus (simp only [List.getElem?_toArray, List.getElem?_cons_succ, List.getElem?_cons_zero]; rfl)); (focus (exact fun _ _ _ h => h)); first | (focus (refine Or.inl ⟨by rfl, ?_⟩; intro w hSw; (try dsimp only at hSw); (try dsimp only [Array.getD]); go_simp; (try with_reducible rfl))) | (focus (refine Or.inr ⟨by rfl, ?_⟩; rfl)) | fail "op 1"
              try simp only [Act.put, List.setIfInBounds_toArray, List.set_cons_zero, List.set_cons_succ]
              refine wpAnyH_take (i := 2) (oi := ?_) (v := ?_) ?_ (by kernel_rfl) (by kernel_rfl) (by kernel_rfl) ?_ ?_ (by assumption) ?_; rotate_left 2; (focus (simp only [List.getElem?_toArray, List.getElem?_cons_succ, List.getElem?_cons_zero]; rfl)); (focus (exact fun _ _ _ h => h)); first | (focus (refine Or.inl ⟨by rfl, ?_⟩; intro w hSw; (try dsimp only at hSw); (try dsimp only [Array.getD]); go_simp; (try with_reducible rfl))) | (focus (refine Or.inr ⟨by rfl, ?_⟩; rfl)) | fail "op 2"
              try simp only [Act.put, List.setIfInBounds_toArray, List.set_cons_zero, List.set_cons_succ]
              refine wpAnyH_take (i := 3) (oi := ?_) (v := ?_) ?_ (by kernel_rfl) (by kernel_rfl) (by kernel_rfl) ?_ ?_ (by assumption) ?_; rotate_left 2; (focus (simp only [List.getElem?_toArray, List.getElem?_cons_succ, List.getElem?_cons_zero]; rfl)); (focus (exact fun _ _ _ h => h)); first | (focus (refine Or.inl ⟨by rfl, ?_⟩; intro w hSw; (try dsimp only at hSw); refine (exec_load_mid 31 (.tmp 37) (by rfl) bp (op + k * 6) (by rfl) (ptC z) _ (rangeAt_gr hSw Hz.out) Try.underlying31 rfl info_pt).trans ?_; with_reducible rfl)) | (focus (refine Or.inr ⟨by rfl, ?_⟩; rfl)) | fail "op 3"
              try simp only [Act.put, List.setIfInBounds_toArray, List.set_cons_zero, List.set_cons_succ]
              refine wpAnyH_take (i := 4) (oi := ?_) (v := ?_) ?_ (by kernel_rfl) (by kernel_rfl) (by kernel_rfl) ?_ ?_ (by assumption) ?_; rotate_left 2; (focus (simp only [List.getElem?_toArray, List.getElem?_cons_succ, List.getElem?_cons_zero]; rfl)); (focus (exact fun _ _ _ h => h)); first | (focus (refine Or.inl ⟨by rfl, ?_⟩; intro w hSw; (try dsimp only at hSw); (try dsimp only [Array.getD]); go_simp; (try with_reducible rfl))) | (focus (refine Or.inr ⟨by rfl, ?_⟩; rfl)) | fail "op 4"
              try simp only [Act.put, List.setIfInBounds_toArray, List.set_cons_zero, List.set_cons_succ]
              refine wpAnyH_take (i := 5) (oi := ?_) (v := ?_) ?_ (by kernel_rfl) (by kernel_rfl) (by kernel_rfl) ?_ ?_ (by assumption) ?_; rotate_left 2; (focus (simp only [List.getElem?_toArray, List.getElem?_cons_succ, List.getElem?_cons_zero]; rfl)); (focus (exact fun _ _ _ h => h)); first | (focus (refine Or.inl ⟨by rfl, ?_⟩; intro w hSw; (try dsimp only at hSw); (try dsimp only [Array.getD]); go_simp; (try with_reducible rfl))) | (focus (refine Or.inr ⟨by rfl, ?_⟩; rfl)) | fail "op 5"
              try simp only [Act.put, List.setIfInBounds_toArray, List.set_cons_zero, List.set_cons_succ]
              refine wpAnyH_take (i := 6) (oi := ?_) (v := ?_) ?_ (by kernel_rfl) (by kernel_rfl) (by kernel_rfl) ?_ ?_ (by assumption) ?_; rotate_left 2; (focus (simp only [List.getElem?_toArray, List.getElem?_cons_succ, List.getElem?_cons_zero]; rfl)); (focus (exact fun _ _ _ h => h)); first | (focus (refine Or.inl ⟨by rfl, ?_⟩; intro w hSw; (try dsimp only at hSw); (try dsimp only [Array.getD]); go_simp; (try with_reducible rfl))) | (focus (refine Or.inr ⟨by rfl, ?_⟩; rfl)) | fail "op 6"
              try simp only [Act.put, List.setIfInBounds_toArray, List.set_cons_zero, List.set_cons_succ]
              refine wpAnyH_take (i := 7) (oi := ?_) (v := ?_) ?_ (by kernel_rfl) (by kernel_rfl) (by kernel_rfl) ?_ ?_ (by assumption) ?_; rotate_left 2; (focus (simp only [List.getElem?_toArray, List.getElem?_cons_succ, List.getElem?_cons_zero]; rfl)); (focus (exact fun _ _ _ h => h)); first | (focus (refine Or.inl ⟨by rfl, ?_⟩; intro w hSw; (try dsimp only at hSw); have c1 := (H7.out.gr hSw).c1; (try dsimp only [Array.getD]); go_simp; (try with_reducible rfl))) | (focus (refine Or.inr ⟨by rfl, ?_⟩; rfl)) | fail "op 7"
              try simp only [Act.put, List.setIfInBounds_toArray, List.set_cons_zero, List.set_cons_succ]
              refine wpAnyH_take (i := 8) (oi := ?_) (v := ?_) ?_ (by kernel_rfl) (by kernel_rfl) (by kernel_rfl) ?_ ?_ (by assumption) ?_; rotate_left 2; (focus (simp only [List.getElem?_toArray, List.getElem?_cons_succ, List.getElem?_cons_zero]; rfl)); (focus (exact fun _ _ _ h => h)); first | (focus (refine Or.inl ⟨by rfl, ?_⟩; intro w hSw; (try dsimp only at hSw); (try dsimp only [Array.getD]); go_simp; (try with_reducible rfl))) | (focus (refine Or.inr ⟨by rfl, ?_⟩; rfl)) | fail "op 8"
              try simp only [Act.put, List.setIfInBounds_toArray, List.set_cons_zero, List.set_cons_succ]
              refine wpAnyH_take (i := 9) (oi := ?_) (v := ?_) ?_ (by kernel_rfl) (by kernel_rfl) (by kernel_rfl) ?_ ?_ (by assumption) ?_; rotate_left 2; (focus (simp only [List.getElem?_toArray, List.getElem?_cons_succ, List.getElem?_cons_zero]; rfl)); (focus (exact fun _ _ _ h => h)); first | (focus (refine Or.inl ⟨by rfl, ?_⟩; intro w hSw; (try dsimp only at hSw); (try dsimp only [Array.getD]); go_simp; (try with_reducible rfl))) | (focus (refine Or.inr ⟨by rfl, ?_⟩; rfl)) | fail "op 9"
              try simp only [Act.put, List.setIfInBounds_toArray, List.set_cons_zero, List.set_cons_succ]
              refine wpAnyH_take (i := 10) (oi := ?_) (v := ?_) ?_ (by kernel_rfl) (by kernel_rfl) (by kernel_rfl) ?_ ?_ (by assumption) ?_; rotate_left 2; (focus (simp only [List.getElem?_toArray, List.getElem?_cons_succ, List.getElem?_cons_zero]; rfl)); (focus (exact fun _ _ _ h => h)); first | (focus (refine Or.inl ⟨by rfl, ?_⟩; intro w hSw; (try dsimp only at hSw); (try dsimp only [Array.getD]); go_simp; (try with_reducible rfl))) | (focus (refine Or.inr ⟨by rfl, ?_⟩; rfl)) | fail "op 10"
              try simp only [Act.put, List.setIfInBounds_toArray, List.set_cons_zero, List.set_cons_succ]
              refine wpAnyH_take (i := 11) (oi := ?_) (v := ?_) ?_ (by kernel_rfl) (by kernel_rfl) (by kernel_rfl) ?_ ?_ (by assumption) ?_; rotate_left 2; (focus (simp only [List.getElem?_toArray, List.getElem?_cons_succ, List.getElem?_cons_zero]; rfl)); (focus (exact fun _ _ _ h => h)); first | (focus (refine Or.inl ⟨by rfl, ?_⟩; intro w hSw; (try dsimp only at hSw); refine (exec_load_mid 31 (.tmp 45) (by rfl) bl (ol + i * 7) (by rfl) (ptC x) _ (rangeAt_gr hSw Hx7.out) Try.underlying31 rfl info_pt).trans ?_; with_reducible rfl)) | (focus (refine Or.inr ⟨by rfl, ?_⟩; rfl)) | fail "op 11"
              try simp only [Act.put, List.setIfInBounds_toArray, List.set_cons_zero, List.set_cons_succ]
              refine wpAnyH_ready (rs := [12]) (by kernel_rfl) (by simp) ?_
              refine AllReadyH.cons (o := ?_) ?_ (fun K hK => ?_) AllReadyH.nil; rotate_left; (focus (simp only [List.getElem?_toArray, List.getElem?_cons_succ, List.getElem?_cons_zero]; rfl))
              go_simp
              go_at_call 41
              refine (ahead_calls z x _).mono ?_
              rintro e w8 ⟨rfl, hg8⟩
              rw [decide_eq_false Hlx.out]
              refine hK.out _ _ (hHeld.tr hg8) (fun hHeld => ?_)
              clear hK K
              try simp only [Act.put, List.setIfInBounds_toArray, List.set_cons_zero, List.set_cons_succ]
              refine wpAnyH_take (i := 13) (oi := ?_) (v := ?_) ?_ (by kernel_rfl) (by kernel_rfl) (by kernel_rfl) ?_ ?_ (by assumption) ?_; rotate_left 2; (focus (simp only [List.getElem?_toArray, List.getElem?_cons_succ, List.getElem?_cons_zero]; rfl)); (focus (exact fun _ _ _ h => h)); first | (focus (refine Or.inl ⟨by rfl, ?_⟩; intro w hSw; (try dsimp only at hSw); (try dsimp only [Array.getD]); go_simp; (try with_reducible rfl))) | (focus (refine Or.inr ⟨by rfl, ?_⟩; rfl)) | fail "op 13"
              try simp only [Act.put, List.setIfInBounds_toArray, List.set_cons_zero, List.set_cons_succ]
              refine wpAnyH_done (by kernel_rfl) ?_ _
              have GY := Lib.hid (HG6.out.tr hHeld)
              clear hHeld hz0
              obtain ⟨wy, ey⟩ : ∃ wy, w8 = wy := ⟨_, rfl⟩
              rw [ey] at GY ⊢
              clear ey H7 HO7 Hx7
              have c1 := (H.out.gr (HG.out.tr GY.out)).c1
              obtain ⟨M, eM⟩ : ∃ M, wy.heap.size = M := ⟨_, rfl⟩
              have HM := Lib.hid (show M ≤ wy.heap.size by omega)
              have HM1 := Lib.hid (show wo.heap.size ≤ M by have := GY.out.size; omega)
              have HM2 := Lib.hid (show R ≤ M by have := HM1.out; have := HRw.out; omega)
              clear eM
              go_wp2_with (at_builtin; refine Hid.out ?_)
              apply Lib.hid
              refine wpList_join ptC 6 56 (fun _ => rfl) (by decide) (by decide) ptC_one rfl (.tmp 52) (.tmp 55) 22 rfl M 31 _ Try.underlying22 infoPt rfl (.slice none 0 0) [] rfl (World.ownsRow_nil _ _ _ _) T (.slice (some ⟨bp, op, none⟩) k uc) rfl (HRT.out _ GY.out) (by decide) (by omega) HM.out (fun a6 c6 w6 ho6 hg6 hat6 => ?_)
              rw [List.nil_append] at ho6 ⊢
              have HO6 := Lib.hid ho6
              have G6 := Lib.hid (gr_gb GY.out hg6 (fun j hj => by cases hj))
              have HM6 := Lib.hid (Nat.le_trans HM.out hg6.size)
              clear ho6 hg6 hat6 c1
              have c1 := (H.out.gr (HG.out.tr G6.out)).c1
              go_wp2_with (first | (refine wpList_load_mid rfl 31 (.tmp 64) rfl bl (ol + i * 7) rfl (ptC x) _ (rangeAt_gr G6.out Hx.out) Try.underlying31 rfl info_pt ?_) | (at_builtin; refine Hid.out ?_))
              apply Lib.hid
              have hgw : Gr w6 (w6.alloc (.cells (ptC x).toArray 31)) := Gr.al Gr.rfl' _
              refine wpList_snoc ptC 6 56 (fun _ => rfl) (by decide) (by decide) ptC_one rfl (.tmp 57) (.tmp 66) 22 rfl M 31 _ Try.underlying22 infoPt rfl (.slice a6 T.length c6) T rfl (own_gr HO6.out hgw) x w6.heap.size rfl (heap_alloc_new w6 _) (by omega) (Nat.le_trans HM6.out hgw.size) (fun a7 c7 w7 ho7 hg7 hat7 => ?_)
              have HO7 := Lib.hid ho7
              have G7 := Lib.hid (gr_gb (G6.out.tr hgw) hg7 (fun j hj => by have h1 := (HO6.out.lt j hj).1; have := HM1.out; show wo.heap.size ≤ j; omega))
              have HM7 := Lib.hid (Nat.le_trans (Nat.le_trans HM6.out hgw.size) hg7.size)
              clear ho7 hg7 hat7 c1 hgw
              go_wp2_with (first | (refine wpList_behind ptC 6 (fun _ => rfl) rfl 22 31 (.tmp 69) (.tmp 70) rfl Try.underlying22 sizeP qs (some ⟨bp, op, none⟩) qs.length uc k rfl rfl (HRD.out _ G7.out) hk D HD.out (fun ab cb hrb hab => ?_)) | (at_builtin; refine Hid.out ?_))
              apply Lib.hid
              refine wpList_join ptC 6 56 (fun _ => rfl) (by decide) (by decide) ptC_one rfl (.tmp 68) (.tmp 71) 22 rfl M 31 _ Try.underlying22 infoPt rfl (.slice a7 (T.length + 1) c7) (T ++ [x]) rfl HO7.out D _ rfl hrb (by simp; omega) (by omega) HM7.out (fun a8 c8 w8 ho8 hg8 hat8 => ?_)
              rw [Hfin.out] at ho8 ⊢
              have HO8 := Lib.hid (own_mono ho8 HM2.out)
              have G8 := Lib.hid (gr_gb G7.out hg8 (fun j hj => by have h1 := (HO7.out.lt j hj).1; have := HM1.out; show wo.heap.size ≤ j; omega))
              clear ho8 hg8 hat8 hrb hab
              go_wp2_with fail
              go_roundw
              case rel => exact ⟨i + 1, qs', by omega, by go_num, HI2, HO8, Lib.hid (HG.out.tr G8.out)⟩
              case measure => simp [intOf]; omega
            · have hkl : ¬ k < qs.length := by omega
              have hkl' : ¬ (k : Int) < qs.length := by omega
              have GY := HG6
              obtain ⟨wy, ey⟩ : ∃ wy, wr = wy := ⟨_, rfl⟩
              rw [ey] at GY ⊢
              clear ey H7 HO7 Hx7 hend HG6
              have c1 := (H.out.gr (HG.out.tr GY.out)).c1
              obtain ⟨M, eM⟩ : ∃ M, wy.heap.size = M := ⟨_, rfl⟩
              have HM := Lib.hid (show M ≤ wy.heap.size by omega)
              have HM1 := Lib.hid (show wo.heap.size ≤ M by have := GY.out.size; omega)
              have HM2 := Lib.hid (show R ≤ M by have := HM1.out; have := HRw.out; omega)
              clear eM
              go_wp2_with (at_builtin; refine Hid.out ?_)
              apply Lib.hid
              refine wpList_join ptC 6 56 (fun _ => rfl) (by decide) (by decide) ptC_one rfl (.tmp 52) (.tmp 55) 22 rfl M 31 _ Try.underlying22 infoPt rfl (.slice none 0 0) [] rfl (World.ownsRow_nil _ _ _ _) T (.slice ua k uc) rfl (HRT.out _ GY.out) (by decide) (by omega) HM.out (fun a6 c6 w6 ho6 hg6 hat6 => ?_)
              rw [List.nil_append] at ho6 ⊢
              have HO6 := Lib.hid ho6
              have G6 := Lib.hid (gr_gb GY.out hg6 (fun j hj => by cases hj))
              have HM6 := Lib.hid (Nat.le_trans HM.out hg6.size)
              clear ho6 hg6 hat6 c1
              have c1 := (H.out.gr (HG.out.tr G6.out)).c1
              go_wp2_with (first | (refine wpList_load_mid rfl 31 (.tmp 64) rfl bl (ol + i * 7) rfl (ptC x) _ (rangeAt_gr G6.out Hx.out) Try.underlying31 rfl info_pt ?_) | (at_builtin; refine Hid.out ?_))
              apply Lib.hid
              have hgw : Gr w6 (w6.alloc (.cells (ptC x).toArray 31)) := Gr.al Gr.rfl' _
              refine wpList_snoc ptC 6 56 (fun _ => rfl) (by decide) (by decide) ptC_one rfl (.tmp 57) (.tmp 66) 22 rfl M 31 _ Try.underlying22 infoPt rfl (.slice a6 T.length c6) T rfl (own_gr HO6.out hgw) x w6.heap.size rfl (heap_alloc_new w6 _) (by omega) (Nat.le_trans HM6.out hgw.size) (fun a7 c7 w7 ho7 hg7 hat7 => ?_)
              have HO7 := Lib.hid ho7
              have G7 := Lib.hid (gr_gb (G6.out.tr hgw) hg7 (fun j hj => by have h1 := (HO6.out.lt j hj).1; have := HM1.out; show wo.heap.size ≤ j; omega))
              have HM7 := Lib.hid (Nat.le_trans (Nat.le_trans HM6.out hgw.size) hg7.size)
              clear ho7 hg7 hat7 c1 hgw
              go_wp2_with (first | (refine wpList_behind ptC 6 (fun _ => rfl) rfl 22 31 (.tmp 69) (.tmp 70) rfl Try.underlying22 sizeP qs ua qs.length uc k rfl rfl (HRD.out _ G7.out) hk D HD.out (fun ab cb hrb hab => ?_)) | (at_builtin; refine Hid.out ?_))
              apply Lib.hid
              refine wpList_join ptC 6 56 (fun _ => rfl) (by decide) (by decide) ptC_one rfl (.tmp 68) (.tmp 71) 22 rfl M 31 _ Try.underlying22 infoPt rfl (.slice a7 (T.length + 1) c7) (T ++ [x]) rfl HO7.out D _ rfl hrb (by simp; omega) (by omega) HM7.out (fun a8 c8 w8 ho8 hg8 hat8 => ?_)
              rw [Hfin.out] at ho8 ⊢
              have HO8 := Lib.hid (own_mono ho8 HM2.out)
              have G8 := Lib.hid (gr_gb G7.out hg8 (fun j hj => by have h1 := (HO7.out.lt j hj).1; have := HM1.out; show wo.heap.size ≤ j; omega))
              clear ho8 hg8 hat8 hrb hab
              go_wp2_with fail
              go_roundw
              case rel => exact ⟨i + 1, qs', by omega, by go_num, HI2, HO8, Lib.hid (HG.out.tr G8.out)⟩
              case measure => simp [intOf]; omega
      · have HI2 := Lib.hid (Hsk.out hn)
        have hnb : (q.2 == node) = false := by simp [hn]
        clear hn Hsk Hpt
        go_wp2_with fail
        go_roundw
        case rel => exact ⟨i + 1, qs, by omega, by go_num, HI2, HO, HG⟩
        case measure => simp [intOf]; omega
    · obtain rfl : i = L.length := by omega
      have hFq := HF.out qs HI.out
      have HFL := HFl.out
      rw [hFq] at HFL
      have HFL2 := Lib.hid HFL
      have HRt := Lib.hid (fun (k : Nat) (hk : k ≤ qs.length) => rd_cut (enc := ptC) (k := 6) ptC_len (rdRow_of_own HO.out) hk)
      have huc : qs.length ≤ uc := by obtain ⟨_, a', c', e, h, _⟩ := rdRow_of_own HO.out; cases e; exact h
      clear hlt hFq HFL c1
      have c1 := (H.out.gr HG.out).c1
      by_cases hm0 : most < 0
      · have E1 := Lib.hid (show FL = [] by rw [HFL2.out, show most.toNat = 0 by omega]; simp)
        by_cases h0 : 0 < qs.length
        · have h0' : (0 : Int) < qs.length := by omega
          have HR0 := Lib.hid (HRt.out 0 (by omega))
          go_wp2_with fail
          go_ret
          refine ⟨_, rfl, ?_, HG.out⟩
          show rdRow wr 6 (.slice ua 0 uc) FL.length (encP FL)
          rw [E1.out]
          exact HR0.out
        · have h0' : ¬ (0 : Int) < qs.length := by omega
          have HR0 := Lib.hid (HRt.out qs.length (Nat.le_refl _))
          have HQ0 := Lib.hid (show qs = [] from List.eq_nil_of_length_eq_zero (by omega))
          go_wp2_with fail
          go_ret
          refine ⟨_, rfl, ?_, HG.out⟩
          show rdRow wr 6 (.slice ua qs.length uc) FL.length (encP FL)
          rw [E1.out]
          have := HR0.out
          rw [List.take_length] at this
          have e0 := HQ0.out
          subst e0
          exact this
      · by_cases h0 : most < (qs.length : Int)
        · have hmu : most ≤ (uc : Int) := by omega
          have hm1 : 0 ≤ most := by omega
          have HR0 := Lib.hid (HRt.out most.toNat (by omega))
          rw [← HFL2.out] at HR0
          go_wp2_with fail
          go_ret
          refine ⟨_, rfl, ?_, HG.out⟩
          show rdRow wr 6 (.slice ua most.toNat uc) FL.length (encP FL)
          have e2 : FL.length = most.toNat := by rw [HFL2.out, List.length_take]; omega
          have := HR0.out
          rw [e2] at this ⊢
          exact this
        · have E1 := Lib.hid (show FL = qs by rw [HFL2.out, List.take_of_length_le (by omega)])
          have h0' : ¬ most < (qs.length : Int) := h0
          have HR0 := Lib.hid (rdRow_of_own HO.out)
          go_wp2_with fail
          go_ret
          refine ⟨_, rfl, ?_, HG.out⟩
          show rdRow wr 6 (.slice ua qs.length uc) FL.length (encP FL)
          rw [E1.out]
          exact HR0.out
end Go.Proofs.Ytijgbfhjimlklaa

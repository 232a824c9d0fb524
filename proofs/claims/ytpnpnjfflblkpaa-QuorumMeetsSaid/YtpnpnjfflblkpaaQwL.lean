/- quorum: what the laws' walks need: a write alone, a read alone; Meet, point; nil receivers. -/
import Derived.Test.YtpnpnjfflblkpaaQrC
import Derived.Test.YtpnpnjfflblkpaaRqB
namespace Go.Proofs.Ytpnpnjfflblkpaa
open Go.RowKit Go.Maps Go.Sort Go.Shelf

theorem rdI_lit (w : World) (l : List Int) (T : TypeId) : rdRow (w.alloc (.cells (l.map (Value.int .i64)).toArray T)) 1 (.slice (some ⟨w.heap.size, 0, none⟩) l.length l.length) l.length (encI l) := by
  have hb := heap_alloc_new w (.cells (l.map (Value.int .i64)).toArray T)
  refine ⟨by rw [encI_map]; simp, _, _, rfl, Nat.le_refl _, fun _ => ⟨_, _, rfl, fun j u hu => ?_⟩⟩
  rw [Nat.zero_add, cell_of_row _ _ _ _ _ _ hb]
  rw [encI_map] at hu
  simpa using hu
theorem rdP_lit (w : World) (p : Pt) (T : TypeId) : rdRow (w.alloc (.cells (ptC p).toArray T)) 6 (.slice (some ⟨w.heap.size, 0, none⟩) 1 1) [p].length (encP [p]) := by
  have hb := heap_alloc_new w (.cells (ptC p).toArray T)
  refine ⟨rfl, _, _, rfl, Nat.le_refl _, fun _ => ⟨_, _, rfl, fun j u hu => ?_⟩⟩
  rw [Nat.zero_add, cell_of_row _ _ _ _ _ _ hb]
  have e : encP [p] = ptC p := by unfold encP; simp
  rw [e] at hu
  simpa using hu
def ptA (t c : Int) : Pt := ⟨⟨#[97]⟩, t, c, c, 0, 1⟩
theorem point_calls (t c : Int) (w : World) : Calls Try.prog 34 #[.int .i64 t, .int .i64 c] w fun e w' => e = .returned (ptV (ptA t c)) ∧ Gr w w' := by
  go_enter Try.func34, Try.ntmps34
  go_wp2_with fail
  exact bodyPost_ret (v := .agg #[.string ⟨#[97]⟩, .int .i64 t, .int .i64 c, .int .i64 c, .int .i64 0, .int .i64 1]) (by simp [results, Try.results34, go_sem]) rfl ⟨rfl, by (repeat (first | exact Gr.rfl' | refine Gr.al ?_ _ | refine Gr.dr ?_ | refine Gr.drN ?_ | refine Gr.sc ?_ (by simp <;> omega) _ | refine Gr.tr ?_ (by assumption)))⟩
/-- A write that a walk has for itself. -/
def OneW (w0 w : World) (p b : Nat) (nd : Int) (N H : List Int) : Prop := ∃ nv, WrAt w p nd nv N (some b) H ∧ Gr w0 w ∧ w0.heap.size ≤ b
def OneR (w0 w : World) (p b g : Nat) (nd : Int) (N H : List Int) (gl : Int → List Pt) : Prop := ∃ nv gv, RdAt w p nd nv N (some b) (some g) H gv gl ∧ Gr w0 w ∧ w0.heap.size ≤ b ∧ w0.heap.size ≤ g
def ackH (N H : List Int) (n : Int) : List Int := if ackB N H n then H ++ [n] else H
section
variable {w0 w w' : World} {p b g : Nat} {nd : Int} {N H : List Int} {gl : Int → List Pt}
theorem OneW.gr (h : OneW w0 w p b nd N H) (hg : Gr w w') : OneW w0 w' p b nd N H := by
  obtain ⟨nv, h1, h2, h3⟩ := h
  exact ⟨nv, h1.gr hg, h2.tr hg, h3⟩
theorem OneR.gr (h : OneR w0 w p b g nd N H gl) (hg : Gr w w') : OneR w0 w' p b g nd N H gl := by
  obtain ⟨nv, gv, h1, h2, h3⟩ := h
  exact ⟨nv, gv, h1.gr hg, h2.tr hg, h3⟩
theorem OneW.bt (h : OneW w0 w p b nd N H) {X : Nat → Prop} (hb : Bt X w w') (hX : ∀ k, X k → ∃ es c, w.heap[k]? = some (.map es c)) (h1 : ¬ X b) (h0 : ∀ k, X k → w0.heap.size ≤ k) : OneW w0 w' p b nd N H := by
  obtain ⟨nv, hr, hg, h3⟩ := h
  exact ⟨nv, hr.bt hb hX (fun k e => by injection e with e; rw [← e]; exact h1), hb.gr hg h0, h3⟩
theorem OneR.bt (h : OneR w0 w p b g nd N H gl) {X : Nat → Prop} (hb : Bt X w w') (hX : ∀ k, X k → ∃ es c, w.heap[k]? = some (.map es c)) (h1 : ¬ X b) (h2 : ¬ X g) (h0 : ∀ k, X k → w0.heap.size ≤ k) : OneR w0 w' p b g nd N H gl := by
  obtain ⟨nv, gv, hr, hg, h3⟩ := h
  exact ⟨nv, gv, ⟨hr.wr.bt hb hX (fun k e => by injection e with e; rw [← e]; exact h1), hr.gt.bt hb hX (fun k e => by injection e with e; rw [← e]; exact h2), hr.ne⟩, hb.gr hg h0, h3⟩
theorem OneW.ack (h : OneW w0 w p b nd N H) (hN : N.length ≤ 1000) (hH : H.length ≤ 1000) (n : Int) (hn : I64 n) :
    Calls Try.prog 14 #[.pointer (some ⟨p, 0, none⟩), .int .i64 n] w fun e w' => e = .returned (.bool (decide (ackB N H n))) ∧ OneW w0 w' p b nd N (ackH N H n) ∧ Bt (fun k => b = k) w w' ∧ ∃ es c, w.heap[b]? = some (.map es c) := by
  obtain ⟨nv, h1, h2, h3⟩ := h
  refine (ack_calls w p nd nv N (some b) H h1 hN hH n hn).mono ?_
  rintro e w' ⟨rfl, ha, hb⟩
  have hb' : Bt (fun k => b = k) w w' := hb.mono fun k _ e => by injection e
  exact ⟨rfl, ⟨nv, ha, hb'.gr h2 (fun k e => by rw [← e]; exact h3), h3⟩, hb', h1.map.map⟩
theorem OneR.answer (h : OneR w0 w p b g nd N H gl) (hN : N.length ≤ 1000) (hH : H.length ≤ 1000) (n : Int) (hn : I64 n) (v : Value) (l : List Pt) (hv : rdRow w 6 v l.length (encP l)) (hl : l.length ≤ 100000) :
    Calls Try.prog 17 #[.pointer (some ⟨p, 0, none⟩), .int .i64 n, v] w fun e w' => e = .returned (.bool (decide (ackB N H n))) ∧ OneR w0 w' p b g nd N (ackH N H n) (fun k => if k = n ∧ ackB N H n then sortP l else gl k) ∧ Bt (fun k => b = k ∨ g = k) w w' ∧ (∃ es c, w.heap[b]? = some (.map es c)) ∧ ∃ es c, w.heap[g]? = some (.map es c) := by
  obtain ⟨nv, gv, h1, h2, h3, h4⟩ := h
  refine (answer_calls w p nd nv N (some b) (some g) H gv gl h1 hN hH n hn v l hv hl).mono ?_
  rintro e w' ⟨rfl, hb, ha⟩
  have hb' : Bt (fun k => b = k ∨ g = k) w w' := hb.mono fun k _ e => e.imp (fun e => by injection e) (fun e => by injection e)
  have hg := hb'.gr h2 (fun k e => by rcases e with e | e <;> rw [← e] <;> assumption)
  refine ⟨rfl, ?_, hb', h1.wr.map.map, h1.gt.got.map⟩
  unfold ackH
  by_cases hk : ackB N H n
  · rw [if_pos hk] at ha ⊢
    obtain ⟨v', ha⟩ := ha
    have e : (fun k => if k = n ∧ ackB N H n then sortP l else gl k) = fun k => if k = n then sortP l else gl k := by
      funext k; by_cases e : k = n <;> simp [e, hk]
    rw [e]
    exact ⟨nv, _, ha, hg, h3, h4⟩
  · rw [if_neg hk] at ha ⊢
    have e : (fun k => if k = n ∧ ackB N H n then sortP l else gl k) = gl := by
      funext k; simp [hk]
    rw [e]
    exact ⟨nv, gv, ha, hg, h3, h4⟩
end
set_option maxRecDepth 100000 in
theorem meet3_calls (x : Int) (hx : x = 1 ∨ x = 2) (w : World) : Calls Try.prog 9 #[.int .i64 3, .int .i64 x, .int .i64 2] w fun e w' => e = .returned (.bool (x == 2)) ∧ Gr w w' := by
  rcases hx with rfl | rfl
  all_goals
    go_enter Try.func9, Try.ntmps9
    go_wp2_with fail
    go_ret
    exact ⟨rfl, by (repeat (first | exact Gr.rfl' | refine Gr.al ?_ _ | refine Gr.dr ?_ | refine Gr.drN ?_ | refine Gr.sc ?_ (by simp <;> omega) _ | refine Gr.tr ?_ (by assumption)))⟩
set_option maxRecDepth 100000 in
theorem wack_nil (n : Int) (w : World) : Calls Try.prog 14 #[.pointer none, .int .i64 n] w fun e w' => e = .returned (.bool false) ∧ Gr w w' := by
  go_enter Try.func14, Try.ntmps14
  go_wp2_with (fail)
  go_ret
  exact ⟨rfl, by (repeat (first | exact Gr.rfl' | refine Gr.al ?_ _ | refine Gr.dr ?_ | refine Gr.drN ?_ | refine Gr.sc ?_ (by simp <;> omega) _ | refine Gr.tr ?_ (by assumption)))⟩
set_option maxRecDepth 100000 in
theorem wdone_nil (w : World) : Calls Try.prog 13 #[.pointer none] w fun e w' => e = .returned (.bool false) ∧ Gr w w' := by
  go_enter Try.func13, Try.ntmps13
  go_wp2_with fail
  refine region_start (S := fun w' => Gr w w') (by kernel_rfl) (by exact Gr.dr Gr.rfl') (fun wz hz0 hHeld => ?_)
  simp only [List.size_toArray, List.length_cons, List.length_nil, Nat.reduceAdd]
  refine wpAnyH_take (i := 0) (oi := ?_) (v := ?_) ?_ (by kernel_rfl) (by kernel_rfl) (by kernel_rfl) ?_ ?_ (by assumption) ?_; rotate_left 2; (focus (simp only [List.getElem?_toArray, List.getElem?_cons_zero]; rfl)); (focus (exact fun _ _ _ h => h)); first | (focus (refine Or.inl ⟨by rfl, ?_⟩; intro w hSw; (try dsimp only at hSw); (try dsimp only [Array.getD]); go_simp; (try with_reducible rfl))) | (focus (refine Or.inr ⟨by rfl, ?_⟩; rfl)) | fail "op 0"
  try simp only [Act.put, List.setIfInBounds_toArray, List.set_cons_zero, List.set_cons_succ]
  refine wpAnyH_take (i := 1) (oi := ?_) (v := ?_) ?_ (by kernel_rfl) (by kernel_rfl) (by kernel_rfl) ?_ ?_ (by assumption) ?_; rotate_left 2; (focus (simp only [List.getElem?_toArray, List.getElem?_cons_succ, List.getElem?_cons_zero]; rfl)); (focus (exact fun _ _ _ h => h)); first | (focus (refine Or.inl ⟨by rfl, ?_⟩; intro w hSw; (try dsimp only at hSw); (try dsimp only [Array.getD]); go_simp; (try with_reducible rfl))) | (focus (refine Or.inr ⟨by rfl, ?_⟩; rfl)) | fail "op 1"
  try simp only [Act.put, List.setIfInBounds_toArray, List.set_cons_zero, List.set_cons_succ]
  refine wpAnyH_take (i := 2) (oi := ?_) (v := ?_) ?_ (by kernel_rfl) (by kernel_rfl) (by kernel_rfl) ?_ ?_ (by assumption) ?_; rotate_left 2; (focus (simp only [List.getElem?_toArray, List.getElem?_cons_succ, List.getElem?_cons_zero]; rfl)); (focus (exact fun _ _ _ h => h)); first | (focus (refine Or.inl ⟨by rfl, ?_⟩; intro w hSw; (try dsimp only at hSw); (try dsimp only [Array.getD]); go_simp; (try with_reducible rfl))) | (focus (refine Or.inr ⟨by rfl, ?_⟩; rfl)) | fail "op 2"
  try simp only [Act.put, List.setIfInBounds_toArray, List.set_cons_zero, List.set_cons_succ]
  refine wpAnyH_take (i := 3) (oi := ?_) (v := ?_) ?_ (by kernel_rfl) (by kernel_rfl) (by kernel_rfl) ?_ ?_ (by assumption) ?_; rotate_left 2; (focus (simp only [List.getElem?_toArray, List.getElem?_cons_succ, List.getElem?_cons_zero]; rfl)); (focus (exact fun _ _ _ h => h)); first | (focus (refine Or.inl ⟨by rfl, ?_⟩; intro w hSw; (try dsimp only at hSw); (try dsimp only [Array.getD]); go_simp; (try with_reducible rfl))) | (focus (refine Or.inr ⟨by rfl, ?_⟩; rfl)) | fail "op 3"
  try simp only [Act.put, List.setIfInBounds_toArray, List.set_cons_zero, List.set_cons_succ]
  refine wpAnyH_take (i := 4) (oi := ?_) (v := ?_) ?_ (by kernel_rfl) (by kernel_rfl) (by kernel_rfl) ?_ ?_ (by assumption) ?_; rotate_left 2; (focus (simp only [List.getElem?_toArray, List.getElem?_cons_succ, List.getElem?_cons_zero]; rfl)); (focus (exact fun _ _ _ h => h)); first | (focus (refine Or.inl ⟨by rfl, ?_⟩; intro w hSw; (try dsimp only at hSw); (try dsimp only [Array.getD]); go_simp; (try with_reducible rfl))) | (focus (refine Or.inr ⟨by rfl, ?_⟩; rfl)) | fail "op 4"
  try simp only [Act.put, List.setIfInBounds_toArray, List.set_cons_zero, List.set_cons_succ]
  refine wpAnyH_take (i := 5) (oi := ?_) (v := ?_) ?_ (by kernel_rfl) (by kernel_rfl) (by kernel_rfl) ?_ ?_ (by assumption) ?_; rotate_left 2; (focus (simp only [List.getElem?_toArray, List.getElem?_cons_succ, List.getElem?_cons_zero]; rfl)); (focus (exact fun _ _ _ h => h)); first | (focus (refine Or.inl ⟨by rfl, ?_⟩; intro w hSw; (try dsimp only at hSw); (try dsimp only [Array.getD]); go_simp; (try with_reducible rfl))) | (focus (refine Or.inr ⟨by rfl, ?_⟩; rfl)) | fail "op 5"
  try simp only [Act.put, List.setIfInBounds_toArray, List.set_cons_zero, List.set_cons_succ]
  refine wpAnyH_take (i := 6) (oi := ?_) (v := ?_) ?_ (by kernel_rfl) (by kernel_rfl) (by kernel_rfl) ?_ ?_ (by assumption) ?_; rotate_left 2; (focus (simp only [List.getElem?_toArray, List.getElem?_cons_succ, List.getElem?_cons_zero]; rfl)); (focus (exact fun _ _ _ h => h)); first | (focus (refine Or.inl ⟨by rfl, ?_⟩; intro w hSw; (try dsimp only at hSw); (try dsimp only [Array.getD]); go_simp; (try with_reducible rfl))) | (focus (refine Or.inr ⟨by rfl, ?_⟩; rfl)) | fail "op 6"
  try simp only [Act.put, List.setIfInBounds_toArray, List.set_cons_zero, List.set_cons_succ]
  refine wpAnyH_take (i := 7) (oi := ?_) (v := ?_) ?_ (by kernel_rfl) (by kernel_rfl) (by kernel_rfl) ?_ ?_ (by assumption) ?_; rotate_left 2; (focus (simp only [List.getElem?_toArray, List.getElem?_cons_succ, List.getElem?_cons_zero]; rfl)); (focus (exact fun _ _ _ h => h)); first | (focus (refine Or.inl ⟨by rfl, ?_⟩; intro w hSw; (try dsimp only at hSw); (try dsimp only [Array.getD]); go_simp; (try with_reducible rfl))) | (focus (refine Or.inr ⟨by rfl, ?_⟩; rfl)) | fail "op 7"
  try simp only [Act.put, List.setIfInBounds_toArray, List.set_cons_zero, List.set_cons_succ]
  refine wpAnyH_take (i := 8) (oi := ?_) (v := ?_) ?_ (by kernel_rfl) (by kernel_rfl) (by kernel_rfl) ?_ ?_ (by assumption) ?_; rotate_left 2; (focus (simp only [List.getElem?_toArray, List.getElem?_cons_succ, List.getElem?_cons_zero]; rfl)); (focus (exact fun _ _ _ h => h)); first | (focus (refine Or.inl ⟨by rfl, ?_⟩; intro w hSw; (try dsimp only at hSw); (try dsimp only [Array.getD]); go_simp; (try with_reducible rfl))) | (focus (refine Or.inr ⟨by rfl, ?_⟩; rfl)) | fail "op 8"
  try simp only [Act.put, List.setIfInBounds_toArray, List.set_cons_zero, List.set_cons_succ]
  refine wpAnyH_take (i := 9) (oi := ?_) (v := ?_) ?_ (by kernel_rfl) (by kernel_rfl) (by kernel_rfl) ?_ ?_ (by assumption) ?_; rotate_left 2; (focus (simp only [List.getElem?_toArray, List.getElem?_cons_succ, List.getElem?_cons_zero]; rfl)); (focus (exact fun _ _ _ h => h)); first | (focus (refine Or.inl ⟨by rfl, ?_⟩; intro w hSw; (try dsimp only at hSw); (try dsimp only [Array.getD]); go_simp; (try with_reducible rfl))) | (focus (refine Or.inr ⟨by rfl, ?_⟩; rfl)) | fail "op 9"
  try simp only [Act.put, List.setIfInBounds_toArray, List.set_cons_zero, List.set_cons_succ]
  refine wpAnyH_take (i := 10) (oi := ?_) (v := ?_) ?_ (by kernel_rfl) (by kernel_rfl) (by kernel_rfl) ?_ ?_ (by assumption) ?_; rotate_left 2; (focus (simp only [List.getElem?_toArray, List.getElem?_cons_succ, List.getElem?_cons_zero]; rfl)); (focus (exact fun _ _ _ h => h)); first | (focus (refine Or.inl ⟨by rfl, ?_⟩; intro w hSw; (try dsimp only at hSw); (try dsimp only [Array.getD]); go_simp; (try with_reducible rfl))) | (focus (refine Or.inr ⟨by rfl, ?_⟩; rfl)) | fail "op 10"
  try simp only [Act.put, List.setIfInBounds_toArray, List.set_cons_zero, List.set_cons_succ]
  refine wpAnyH_take (i := 11) (oi := ?_) (v := ?_) ?_ (by kernel_rfl) (by kernel_rfl) (by kernel_rfl) ?_ ?_ (by assumption) ?_; rotate_left 2; (focus (simp only [List.getElem?_toArray, List.getElem?_cons_succ, List.getElem?_cons_zero]; rfl)); (focus (exact fun _ _ _ h => h)); first | (focus (refine Or.inl ⟨by rfl, ?_⟩; intro w hSw; (try dsimp only at hSw); (try dsimp only [Array.getD]); go_simp; (try with_reducible rfl))) | (focus (refine Or.inr ⟨by rfl, ?_⟩; rfl)) | fail "op 11"
  try simp only [Act.put, List.setIfInBounds_toArray, List.set_cons_zero, List.set_cons_succ]
  refine wpAnyH_take (i := 12) (oi := ?_) (v := ?_) ?_ (by kernel_rfl) (by kernel_rfl) (by kernel_rfl) ?_ ?_ (by assumption) ?_; rotate_left 2; (focus (simp only [List.getElem?_toArray, List.getElem?_cons_succ, List.getElem?_cons_zero]; rfl)); (focus (exact fun _ _ _ h => h)); first | (focus (refine Or.inl ⟨by rfl, ?_⟩; intro w hSw; (try dsimp only at hSw); (try dsimp only [Array.getD]); go_simp; (try with_reducible rfl))) | (focus (refine Or.inr ⟨by rfl, ?_⟩; rfl)) | fail "op 12"
  try simp only [Act.put, List.setIfInBounds_toArray, List.set_cons_zero, List.set_cons_succ]
  refine wpAnyH_take (i := 13) (oi := ?_) (v := ?_) ?_ (by kernel_rfl) (by kernel_rfl) (by kernel_rfl) ?_ ?_ (by assumption) ?_; rotate_left 2; (focus (simp only [List.getElem?_toArray, List.getElem?_cons_succ, List.getElem?_cons_zero]; rfl)); (focus (exact fun _ _ _ h => h)); first | (focus (refine Or.inl ⟨by rfl, ?_⟩; intro w hSw; (try dsimp only at hSw); (try dsimp only [Array.getD]); go_simp; (try with_reducible rfl))) | (focus (refine Or.inr ⟨by rfl, ?_⟩; rfl)) | fail "op 13"
  try simp only [Act.put, List.setIfInBounds_toArray, List.set_cons_zero, List.set_cons_succ]
  refine wpAnyH_take (i := 14) (oi := ?_) (v := ?_) ?_ (by kernel_rfl) (by kernel_rfl) (by kernel_rfl) ?_ ?_ (by assumption) ?_; rotate_left 2; (focus (simp only [List.getElem?_toArray, List.getElem?_cons_succ, List.getElem?_cons_zero]; rfl)); (focus (exact fun _ _ _ h => h)); first | (focus (refine Or.inl ⟨by rfl, ?_⟩; intro w hSw; (try dsimp only at hSw); (try dsimp only [Array.getD]); go_simp; (try with_reducible rfl))) | (focus (refine Or.inr ⟨by rfl, ?_⟩; rfl)) | fail "op 14"
  try simp only [Act.put, List.setIfInBounds_toArray, List.set_cons_zero, List.set_cons_succ]
  refine wpAnyH_take (i := 15) (oi := ?_) (v := ?_) ?_ (by kernel_rfl) (by kernel_rfl) (by kernel_rfl) ?_ ?_ (by assumption) ?_; rotate_left 2; (focus (simp only [List.getElem?_toArray, List.getElem?_cons_succ, List.getElem?_cons_zero]; rfl)); (focus (exact fun _ _ _ h => h)); first | (focus (refine Or.inl ⟨by rfl, ?_⟩; intro w hSw; (try dsimp only at hSw); (try dsimp only [Array.getD]); go_simp; (try with_reducible rfl))) | (focus (refine Or.inr ⟨by rfl, ?_⟩; rfl)) | fail "op 15"
  try simp only [Act.put, List.setIfInBounds_toArray, List.set_cons_zero, List.set_cons_succ]
  refine wpAnyH_take (i := 16) (oi := ?_) (v := ?_) ?_ (by kernel_rfl) (by kernel_rfl) (by kernel_rfl) ?_ ?_ (by assumption) ?_; rotate_left 2; (focus (simp only [List.getElem?_toArray, List.getElem?_cons_succ, List.getElem?_cons_zero]; rfl)); (focus (exact fun _ _ _ h => h)); first | (focus (refine Or.inl ⟨by rfl, ?_⟩; intro w hSw; (try dsimp only at hSw); (try dsimp only [Array.getD]); go_simp; (try with_reducible rfl))) | (focus (refine Or.inr ⟨by rfl, ?_⟩; rfl)) | fail "op 16"
  try simp only [Act.put, List.setIfInBounds_toArray, List.set_cons_zero, List.set_cons_succ]
  refine wpAnyH_take (i := 17) (oi := ?_) (v := ?_) ?_ (by kernel_rfl) (by kernel_rfl) (by kernel_rfl) ?_ ?_ (by assumption) ?_; rotate_left 2; (focus (simp only [List.getElem?_toArray, List.getElem?_cons_succ, List.getElem?_cons_zero]; rfl)); (focus (exact fun _ _ _ h => h)); first | (focus (refine Or.inl ⟨by rfl, ?_⟩; intro w hSw; (try dsimp only at hSw); (try dsimp only [Array.getD]); go_simp; (try with_reducible rfl))) | (focus (refine Or.inr ⟨by rfl, ?_⟩; rfl)) | fail "op 17"
  try simp only [Act.put, List.setIfInBounds_toArray, List.set_cons_zero, List.set_cons_succ]
  refine wpAnyH_take (i := 18) (oi := ?_) (v := ?_) ?_ (by kernel_rfl) (by kernel_rfl) (by kernel_rfl) ?_ ?_ (by assumption) ?_; rotate_left 2; (focus (simp only [List.getElem?_toArray, List.getElem?_cons_succ, List.getElem?_cons_zero]; rfl)); (focus (exact fun _ _ _ h => h)); first | (focus (refine Or.inl ⟨by rfl, ?_⟩; intro w hSw; (try dsimp only at hSw); (try dsimp only [Array.getD]); go_simp; (try with_reducible rfl))) | (focus (refine Or.inr ⟨by rfl, ?_⟩; rfl)) | fail "op 18"
  try simp only [Act.put, List.setIfInBounds_toArray, List.set_cons_zero, List.set_cons_succ]
  refine wpAnyH_take (i := 19) (oi := ?_) (v := ?_) ?_ (by kernel_rfl) (by kernel_rfl) (by kernel_rfl) ?_ ?_ (by assumption) ?_; rotate_left 2; (focus (simp only [List.getElem?_toArray, List.getElem?_cons_succ, List.getElem?_cons_zero]; rfl)); (focus (exact fun _ _ _ h => h)); first | (focus (refine Or.inl ⟨by rfl, ?_⟩; intro w hSw; (try dsimp only at hSw); (try dsimp only [Array.getD]); go_simp; (try with_reducible rfl))) | (focus (refine Or.inr ⟨by rfl, ?_⟩; rfl)) | fail "op 19"
  try simp only [Act.put, List.setIfInBounds_toArray, List.set_cons_zero, List.set_cons_succ]
  refine wpAnyH_take (i := 20) (oi := ?_) (v := ?_) ?_ (by kernel_rfl) (by kernel_rfl) (by kernel_rfl) ?_ ?_ (by assumption) ?_; rotate_left 2; (focus (simp only [List.getElem?_toArray, List.getElem?_cons_succ, List.getElem?_cons_zero]; rfl)); (focus (exact fun _ _ _ h => h)); first | (focus (refine Or.inl ⟨by rfl, ?_⟩; intro w hSw; (try dsimp only at hSw); (try dsimp only [Array.getD]); go_simp; (try with_reducible rfl))) | (focus (refine Or.inr ⟨by rfl, ?_⟩; rfl)) | fail "op 20"
  try simp only [Act.put, List.setIfInBounds_toArray, List.set_cons_zero, List.set_cons_succ]
  refine wpAnyH_take (i := 21) (oi := ?_) (v := ?_) ?_ (by kernel_rfl) (by kernel_rfl) (by kernel_rfl) ?_ ?_ (by assumption) ?_; rotate_left 2; (focus (simp only [List.getElem?_toArray, List.getElem?_cons_succ, List.getElem?_cons_zero]; rfl)); (focus (exact fun _ _ _ h => h)); first | (focus (refine Or.inl ⟨by rfl, ?_⟩; intro w hSw; (try dsimp only at hSw); (try dsimp only [Array.getD]); go_simp; (try with_reducible rfl))) | (focus (refine Or.inr ⟨by rfl, ?_⟩; rfl)) | fail "op 21"
  try simp only [Act.put, List.setIfInBounds_toArray, List.set_cons_zero, List.set_cons_succ]
  refine wpAnyH_done (by kernel_rfl) ?_ _
  have G := Lib.hid hHeld
  clear hHeld hz0
  go_wp2_with fail
  go_ret
  exact ⟨rfl, G.out⟩
set_option maxRecDepth 100000 in
theorem those_nil (b : Bool) (w : World) : Calls Try.prog 53 #[.pointer none, .bool b] w fun e w' => e = .returned (.slice none 0 0) ∧ Gr w w' := by
  go_enter Try.func53, Try.ntmps53
  go_wp2_with (fail)
  go_ret
  exact ⟨rfl, by (repeat (first | exact Gr.rfl' | refine Gr.al ?_ _ | refine Gr.dr ?_ | refine Gr.drN ?_ | refine Gr.sc ?_ (by simp <;> omega) _ | refine Gr.tr ?_ (by assumption)))⟩
set_option maxRecDepth 100000 in
theorem ranswer_nil (n : Int) (v : Value) (w : World) : Calls Try.prog 17 #[.pointer none, .int .i64 n, v] w fun e w' => e = .returned (.bool false) ∧ Gr w w' := by
  go_enter Try.func17, Try.ntmps17
  go_wp2_with (fail)
  go_ret
  exact ⟨rfl, by (repeat (first | exact Gr.rfl' | refine Gr.al ?_ _ | refine Gr.dr ?_ | refine Gr.drN ?_ | refine Gr.sc ?_ (by simp <;> omega) _ | refine Gr.tr ?_ (by assumption)))⟩
set_option maxRecDepth 100000 in
theorem rdone_nil  (w : World) : Calls Try.prog 16 #[.pointer none] w fun e w' => e = .returned (.bool false) ∧ Gr w w' := by
  go_enter Try.func16, Try.ntmps16
  go_wp2_with (fail)
  go_ret
  exact ⟨rfl, by (repeat (first | exact Gr.rfl' | refine Gr.al ?_ _ | refine Gr.dr ?_ | refine Gr.drN ?_ | refine Gr.sc ?_ (by simp <;> omega) _ | refine Gr.tr ?_ (by assumption)))⟩
set_option maxRecDepth 100000 in
theorem rhave_nil  (w : World) : Calls Try.prog 32 #[.pointer none] w fun e w' => e = .returned (.slice none 0 0) ∧ Gr w w' := by
  go_enter Try.func32, Try.ntmps32
  go_wp2_with (fail)
  go_ret
  exact ⟨rfl, by (repeat (first | exact Gr.rfl' | refine Gr.al ?_ _ | refine Gr.dr ?_ | refine Gr.drN ?_ | refine Gr.sc ?_ (by simp <;> omega) _ | refine Gr.tr ?_ (by assumption)))⟩
set_option maxRecDepth 100000 in
theorem rmissing_nil  (w : World) : Calls Try.prog 33 #[.pointer none] w fun e w' => e = .returned (.slice none 0 0) ∧ Gr w w' := by
  go_enter Try.func33, Try.ntmps33
  go_wp2_with (fail)
  go_ret
  exact ⟨rfl, by (repeat (first | exact Gr.rfl' | refine Gr.al ?_ _ | refine Gr.dr ?_ | refine Gr.drN ?_ | refine Gr.sc ?_ (by simp <;> omega) _ | refine Gr.tr ?_ (by assumption)))⟩
set_option maxRecDepth 100000 in
theorem rmerged_nil  (w : World) : Calls Try.prog 18 #[.pointer none] w fun e w' => e = .returned (.slice none 0 0) ∧ Gr w w' := by
  go_enter Try.func18, Try.ntmps18
  go_wp2_with (fail)
  go_ret
  exact ⟨rfl, by (repeat (first | exact Gr.rfl' | refine Gr.al ?_ _ | refine Gr.dr ?_ | refine Gr.drN ?_ | refine Gr.sc ?_ (by simp <;> omega) _ | refine Gr.tr ?_ (by assumption)))⟩
set_option maxRecDepth 100000 in
theorem whave_nil (w : World) : Calls Try.prog 27 #[.pointer none] w fun e w' => e = .returned (.slice none 0 0) ∧ Gr w w' := by
  go_enter Try.func27, Try.ntmps27
  go_wp2_with fail
  refine (those_nil true _).mono ?_
  rintro e w1 ⟨rfl, hg⟩
  have HG := Lib.hid hg
  clear hg
  go_wp2_with fail
  go_ret
  exact ⟨rfl, HG.out⟩
set_option maxRecDepth 100000 in
theorem wmissing_nil (w : World) : Calls Try.prog 29 #[.pointer none] w fun e w' => e = .returned (.slice none 0 0) ∧ Gr w w' := by
  go_enter Try.func29, Try.ntmps29
  go_wp2_with fail
  refine (those_nil false _).mono ?_
  rintro e w1 ⟨rfl, hg⟩
  have HG := Lib.hid hg
  clear hg
  go_wp2_with fail
  go_ret
  exact ⟨rfl, HG.out⟩
set_option maxRecDepth 100000 in
theorem rrepair_nil (n : Int) (w : World) : Calls Try.prog 20 #[.pointer none, .int .i64 n] w fun e w' => e = .returned (.slice none 0 0) ∧ Gr w w' := by
  go_enter Try.func20, Try.ntmps20
  go_upto_region 1 with fail
  obtain ⟨w1, e1, g1, b1, s1⟩ := al_out w (.cells #[.pointer none] 35)
  rw [e1]
  obtain ⟨w2, e2, g2, b2, s2⟩ := al_out w1 (.cells #[.int .i64 n] 3)
  rw [e2]
  have hc := keepc g2 ((cell_of_row _ _ 0 _ _ _ b1).trans rfl)
  have Hc := Lib.hid hc
  obtain ⟨A, eA⟩ : ∃ A, w.heap.size = A := ⟨_, rfl⟩
  have G := Lib.hid (g1.tr g2)
  rw [eA] at Hc ⊢
  clear e1 g1 b1 s1 e2 g2 b2 s2 hc eA
  refine region_start (S := fun w' => Gr w2 w') (by kernel_rfl) (by exact Gr.dr Gr.rfl') (fun wz hz0 hHeld => ?_)
  simp only [List.size_toArray, List.length_cons, List.length_nil, Nat.reduceAdd]
  refine wpAnyH_take (i := 0) (oi := ?_) (v := ?_) ?_ (by kernel_rfl) (by kernel_rfl) (by kernel_rfl) ?_ ?_ (by assumption) ?_; rotate_left 2; (focus (simp only [List.getElem?_toArray, List.getElem?_cons_zero]; rfl)); (focus (exact fun _ _ _ h => h)); first | (focus (refine Or.inl ⟨by rfl, ?_⟩; intro w hSw; (try dsimp only at hSw); have hc := keepc hSw Hc.out; (try dsimp only [Array.getD]); go_simp; (try with_reducible rfl))) | (focus (refine Or.inr ⟨by rfl, ?_⟩; rfl)) | fail "op 0"
  try simp only [Act.put, List.setIfInBounds_toArray, List.set_cons_zero, List.set_cons_succ]
  refine wpAnyH_take (i := 1) (oi := ?_) (v := ?_) ?_ (by kernel_rfl) (by kernel_rfl) (by kernel_rfl) ?_ ?_ (by assumption) ?_; rotate_left 2; (focus (simp only [List.getElem?_toArray, List.getElem?_cons_succ, List.getElem?_cons_zero]; rfl)); (focus (exact fun _ _ _ h => h)); first | (focus (refine Or.inl ⟨by rfl, ?_⟩; intro w hSw; (try dsimp only at hSw); (try dsimp only [Array.getD]); go_simp; (try with_reducible rfl))) | (focus (refine Or.inr ⟨by rfl, ?_⟩; rfl)) | fail "op 1"
  try simp only [Act.put, List.setIfInBounds_toArray, List.set_cons_zero, List.set_cons_succ]
  refine wpAnyH_take (i := 2) (oi := ?_) (v := ?_) ?_ (by kernel_rfl) (by kernel_rfl) (by kernel_rfl) ?_ ?_ (by assumption) ?_; rotate_left 2; (focus (simp only [List.getElem?_toArray, List.getElem?_cons_succ, List.getElem?_cons_zero]; rfl)); (focus (exact fun _ _ _ h => h)); first | (focus (refine Or.inl ⟨by rfl, ?_⟩; intro w hSw; (try dsimp only at hSw); (try dsimp only [Array.getD]); go_simp; (try with_reducible rfl))) | (focus (refine Or.inr ⟨by rfl, ?_⟩; rfl)) | fail "op 2"
  try simp only [Act.put, List.setIfInBounds_toArray, List.set_cons_zero, List.set_cons_succ]
  refine wpAnyH_take (i := 3) (oi := ?_) (v := ?_) ?_ (by kernel_rfl) (by kernel_rfl) (by kernel_rfl) ?_ ?_ (by assumption) ?_; rotate_left 2; (focus (simp only [List.getElem?_toArray, List.getElem?_cons_succ, List.getElem?_cons_zero]; rfl)); (focus (exact fun _ _ _ h => h)); first | (focus (refine Or.inl ⟨by rfl, ?_⟩; intro w hSw; (try dsimp only at hSw); have hc := keepc hSw Hc.out; (try dsimp only [Array.getD]); go_simp; (try with_reducible rfl))) | (focus (refine Or.inr ⟨by rfl, ?_⟩; rfl)) | fail "op 3"
  try simp only [Act.put, List.setIfInBounds_toArray, List.set_cons_zero, List.set_cons_succ]
  refine wpAnyH_take (i := 4) (oi := ?_) (v := ?_) ?_ (by kernel_rfl) (by kernel_rfl) (by kernel_rfl) ?_ ?_ (by assumption) ?_; rotate_left 2; (focus (simp only [List.getElem?_toArray, List.getElem?_cons_succ, List.getElem?_cons_zero]; rfl)); (focus (exact fun _ _ _ h => h)); first | (focus (refine Or.inl ⟨by rfl, ?_⟩; intro w hSw; (try dsimp only at hSw); (try dsimp only [Array.getD]); go_simp; (try with_reducible rfl))) | (focus (refine Or.inr ⟨by rfl, ?_⟩; rfl)) | fail "op 4"
  try simp only [Act.put, List.setIfInBounds_toArray, List.set_cons_zero, List.set_cons_succ]
  refine wpAnyH_take (i := 5) (oi := ?_) (v := ?_) ?_ (by kernel_rfl) (by kernel_rfl) (by kernel_rfl) ?_ ?_ (by assumption) ?_; rotate_left 2; (focus (simp only [List.getElem?_toArray, List.getElem?_cons_succ, List.getElem?_cons_zero]; rfl)); (focus (exact fun _ _ _ h => h)); first | (focus (refine Or.inl ⟨by rfl, ?_⟩; intro w hSw; (try dsimp only at hSw); (try dsimp only [Array.getD]); go_simp; (try with_reducible rfl))) | (focus (refine Or.inr ⟨by rfl, ?_⟩; rfl)) | fail "op 5"
  try simp only [Act.put, List.setIfInBounds_toArray, List.set_cons_zero, List.set_cons_succ]
  refine wpAnyH_take (i := 6) (oi := ?_) (v := ?_) ?_ (by kernel_rfl) (by kernel_rfl) (by kernel_rfl) ?_ ?_ (by assumption) ?_; rotate_left 2; (focus (simp only [List.getElem?_toArray, List.getElem?_cons_succ, List.getElem?_cons_zero]; rfl)); (focus (exact fun _ _ _ h => h)); first | (focus (refine Or.inl ⟨by rfl, ?_⟩; intro w hSw; (try dsimp only at hSw); (try dsimp only [Array.getD]); go_simp; (try with_reducible rfl))) | (focus (refine Or.inr ⟨by rfl, ?_⟩; rfl)) | fail "op 6"
  try simp only [Act.put, List.setIfInBounds_toArray, List.set_cons_zero, List.set_cons_succ]
  refine wpAnyH_take (i := 7) (oi := ?_) (v := ?_) ?_ (by kernel_rfl) (by kernel_rfl) (by kernel_rfl) ?_ ?_ (by assumption) ?_; rotate_left 2; (focus (simp only [List.getElem?_toArray, List.getElem?_cons_succ, List.getElem?_cons_zero]; rfl)); (focus (exact fun _ _ _ h => h)); first | (focus (refine Or.inl ⟨by rfl, ?_⟩; intro w hSw; (try dsimp only at hSw); have hc := keepc hSw Hc.out; (try dsimp only [Array.getD]); go_simp; (try with_reducible rfl))) | (focus (refine Or.inr ⟨by rfl, ?_⟩; rfl)) | fail "op 7"
  try simp only [Act.put, List.setIfInBounds_toArray, List.set_cons_zero, List.set_cons_succ]
  refine wpAnyH_take (i := 8) (oi := ?_) (v := ?_) ?_ (by kernel_rfl) (by kernel_rfl) (by kernel_rfl) ?_ ?_ (by assumption) ?_; rotate_left 2; (focus (simp only [List.getElem?_toArray, List.getElem?_cons_succ, List.getElem?_cons_zero]; rfl)); (focus (exact fun _ _ _ h => h)); first | (focus (refine Or.inl ⟨by rfl, ?_⟩; intro w hSw; (try dsimp only at hSw); have hc := keepc hSw Hc.out; (try dsimp only [Array.getD]); go_simp; (try with_reducible rfl))) | (focus (refine Or.inr ⟨by rfl, ?_⟩; rfl)) | fail "op 8"
  try simp only [Act.put, List.setIfInBounds_toArray, List.set_cons_zero, List.set_cons_succ]
  refine wpAnyH_take (i := 9) (oi := ?_) (v := ?_) ?_ (by kernel_rfl) (by kernel_rfl) (by kernel_rfl) ?_ ?_ (by assumption) ?_; rotate_left 2; (focus (simp only [List.getElem?_toArray, List.getElem?_cons_succ, List.getElem?_cons_zero]; rfl)); (focus (exact fun _ _ _ h => h)); first | (focus (refine Or.inl ⟨by rfl, ?_⟩; intro w hSw; (try dsimp only at hSw); (try dsimp only [Array.getD]); go_simp; (try with_reducible rfl))) | (focus (refine Or.inr ⟨by rfl, ?_⟩; rfl)) | fail "op 9"
  try simp only [Act.put, List.setIfInBounds_toArray, List.set_cons_zero, List.set_cons_succ]
  refine wpAnyH_take (i := 10) (oi := ?_) (v := ?_) ?_ (by kernel_rfl) (by kernel_rfl) (by kernel_rfl) ?_ ?_ (by assumption) ?_; rotate_left 2; (focus (simp only [List.getElem?_toArray, List.getElem?_cons_succ, List.getElem?_cons_zero]; rfl)); (focus (exact fun _ _ _ h => h)); first | (focus (refine Or.inl ⟨by rfl, ?_⟩; intro w hSw; (try dsimp only at hSw); (try dsimp only [Array.getD]); go_simp; (try with_reducible rfl))) | (focus (refine Or.inr ⟨by rfl, ?_⟩; rfl)) | fail "op 10"
  try simp only [Act.put, List.setIfInBounds_toArray, List.set_cons_zero, List.set_cons_succ]
  refine wpAnyH_take (i := 11) (oi := ?_) (v := ?_) ?_ (by kernel_rfl) (by kernel_rfl) (by kernel_rfl) ?_ ?_ (by assumption) ?_; rotate_left 2; (focus (simp only [List.getElem?_toArray, List.getElem?_cons_succ, List.getElem?_cons_zero]; rfl)); (focus (exact fun _ _ _ h => h)); first | (focus (refine Or.inl ⟨by rfl, ?_⟩; intro w hSw; (try dsimp only at hSw); (try dsimp only [Array.getD]); go_simp; (try with_reducible rfl))) | (focus (refine Or.inr ⟨by rfl, ?_⟩; rfl)) | fail "op 11"
  try simp only [Act.put, List.setIfInBounds_toArray, List.set_cons_zero, List.set_cons_succ]
  refine wpAnyH_done (by kernel_rfl) ?_ _
  have G6 := Lib.hid (G.out.tr hHeld)
  clear hHeld hz0
  go_wp2_with fail
  go_ret
  exact ⟨rfl, G6.out⟩
end Go.Proofs.Ytpnpnjfflblkpaa

/- Hints: of none nothing comes; awake. -/
import Derived.Test.YtijgbfhjimlklaaHnJ
namespace Go.Proofs.Ytijgbfhjimlklaa
open Go.RowKit Go.Maps

instance (x : Int) : Decidable (I64 x) := by unfold I64; exact inferInstance
theorem add_nil (x : Pt) (v : Value) (w : World) : Calls Try.prog 12 #[.pointer none, ptV x, v] w fun e w' => e = .returned (.bool false) ∧ Gr w w' := by
  go_enter Try.func12, Try.ntmps12
  go_wp2_with fail
  go_ret
  exact ⟨rfl, by (repeat (first | exact Gr.rfl' | refine Gr.al ?_ _ | refine Gr.dr ?_ | refine Gr.drN ?_ | refine Gr.sc ?_ (by simp <;> omega) _ | refine Gr.tr ?_ (by assumption)))⟩
theorem drop_nil (t : Int) (w : World) : Calls Try.prog 21 #[.pointer none, .int .i64 t] w fun e w' => e = .returned (.int .i64 0) ∧ Gr w w' := by
  go_enter Try.func21, Try.ntmps21
  go_wp2_with fail
  go_ret
  exact ⟨rfl, by (repeat (first | exact Gr.rfl' | refine Gr.al ?_ _ | refine Gr.dr ?_ | refine Gr.drN ?_ | refine Gr.sc ?_ (by simp <;> omega) _ | refine Gr.tr ?_ (by assumption)))⟩
theorem len_nil (w : World) : Calls Try.prog 14 #[.pointer none] w fun e w' => e = .returned (.int .i64 0) ∧ Gr w w' := by
  go_enter Try.func14, Try.ntmps14
  go_wp2_with fail
  go_ret
  exact ⟨rfl, by (repeat (first | exact Gr.rfl' | refine Gr.al ?_ _ | refine Gr.dr ?_ | refine Gr.drN ?_ | refine Gr.sc ?_ (by simp <;> omega) _ | refine Gr.tr ?_ (by assumption)))⟩
theorem room_nil (w : World) : Calls Try.prog 19 #[.pointer none] w fun e w' => e = .returned (.int .i64 0) ∧ Gr w w' := by
  go_enter Try.func19, Try.ntmps19
  go_wp2_with fail
  go_ret
  exact ⟨rfl, by (repeat (first | exact Gr.rfl' | refine Gr.al ?_ _ | refine Gr.dr ?_ | refine Gr.drN ?_ | refine Gr.sc ?_ (by simp <;> omega) _ | refine Gr.tr ?_ (by assumption)))⟩
theorem for_nil (n m : Int) (w : World) : Calls Try.prog 15 #[.pointer none, .int .i64 n, .int .i64 m] w fun e w' => e = .returned (.slice none 0 0) ∧ Gr w w' := by
  go_enter Try.func15, Try.ntmps15
  go_wp2_with fail
  go_step3
  go_wp2_with fail
  rw [Exit.noGoto_ret]
  go_ret
  exact ⟨rfl, by (repeat (first | exact Gr.rfl' | refine Gr.al ?_ _ | refine Gr.dr ?_ | refine Gr.drN ?_ | refine Gr.sc ?_ (by simp <;> omega) _ | refine Gr.tr ?_ (by assumption)))⟩
theorem nodes_nil (fv : Value) (w : World) : Calls Try.prog 37 #[.pointer none, fv] w fun e w' => e = .returned (.slice none 0 0) ∧ Gr w w' := by
  go_enter Try.func37, Try.ntmps37
  go_wp2_with fail
  go_ret
  exact ⟨rfl, by (repeat (first | exact Gr.rfl' | refine Gr.al ?_ _ | refine Gr.dr ?_ | refine Gr.drN ?_ | refine Gr.sc ?_ (by simp <;> omega) _ | refine Gr.tr ?_ (by assumption)))⟩
theorem hnodes_nil (w : World) : Calls Try.prog 17 #[.pointer none] w fun e w' => e = .returned (.slice none 0 0) ∧ Gr w w' := by
  go_enter Try.func17, Try.ntmps17
  go_wp2_with fail
  refine (nodes_nil _ _).mono ?_
  rintro e w1 ⟨rfl, hg⟩
  go_wp2_with fail
  go_ret
  exact ⟨rfl, hg⟩
theorem howed_nil (x : Pt) (w : World) : Calls Try.prog 20 #[.pointer none, ptV x] w fun e w' => e = .returned (.slice none 0 0) ∧ Gr w w' := by
  go_enter Try.func20, Try.ntmps20
  go_wp2_with fail
  refine (nodes_nil _ _).mono ?_
  rintro e w1 ⟨rfl, hg⟩
  go_wp2_with fail
  go_ret
  exact ⟨rfl, (Gr.al Gr.rfl' _).tr hg⟩
def ptA (t : Int) : Pt := ⟨⟨#[97]⟩, t, 0, 1, 0, 1⟩
theorem point_calls (t : Int) (w : World) : Calls Try.prog 18 #[.int .i64 t] w fun e w' => e = .returned (ptV (ptA t)) ∧ Gr w w' := by
  go_enter Try.func18, Try.ntmps18
  go_wp2_with fail
  exact bodyPost_ret (v := .agg #[.string ⟨#[97]⟩, .int .i64 t, .int .i64 0, .int .i64 1, .int .i64 0, .int .i64 1]) (by simp [results, Try.results18, go_sem]) rfl ⟨rfl, by (repeat (first | exact Gr.rfl' | refine Gr.al ?_ _ | refine Gr.dr ?_ | refine Gr.drN ?_ | refine Gr.sc ?_ (by simp <;> omega) _ | refine Gr.tr ?_ (by assumption)))⟩
theorem rdI_lit (w : World) (l : List Int) (T : TypeId) : rdRow (w.alloc (.cells (l.map (Value.int .i64)).toArray T)) 1 (.slice (some ⟨w.heap.size, 0, none⟩) l.length l.length) l.length (encI l) := by
  have hb := heap_alloc_new w (.cells (l.map (Value.int .i64)).toArray T)
  refine ⟨by rw [encI_map]; simp, _, _, rfl, Nat.le_refl _, fun _ => ⟨_, _, rfl, fun j u hu => ?_⟩⟩
  rw [Nat.zero_add, cell_of_row _ _ _ _ _ _ hb]
  rw [encI_map] at hu
  simpa using hu
theorem rdP_lit (w : World) (p : Pt) (T : TypeId) : rdRow (w.alloc (.cells (ptC p).toArray T)) 6 (.slice (some ⟨w.heap.size, 0, none⟩) 1 1) [p].length (encP [p]) := by
  have hb := heap_alloc_new w (.cells (ptC p).toArray T)
  refine ⟨rfl, _, _, rfl, Nat.le_refl _, fun _ => ⟨_, _, rfl, fun j u hu => ?_⟩⟩
  rw [Nat.zero_add, cell_of_row _ _ _ _ _ _ hb]
  have e : encP [p] = ptC p := by unfold encP; simp
  rw [e] at hu
  simpa using hu
/-- One object alone. -/
structure OneH (w0 w : World) (p b : Nat) (m : Int) (L : List Hk) : Prop where
  at_ : HAt w p (some b) m L
  gr : Gr w0 w
  np : w0.heap.size ≤ p
  nb : w0.heap.size ≤ b
theorem OneH.grow {w0 w w' : World} {p b : Nat} {m : Int} {L : List Hk} (h : OneH w0 w p b m L) (hg : Gr w w') : OneH w0 w' p b m L := ⟨h.at_.gr hg, h.gr.tr hg, h.np, h.nb⟩
theorem OneH.turn {w0 w w' : World} {p b : Nat} {m : Int} {L L' : List Hk} (h : OneH w0 w p b m L) (ha : HAt w' p (some b) m L') (hb : Bt (fun k => some b = some k) w w') : OneH w0 w' p b m L' :=
  ⟨ha, hb.gr h.gr (fun k hk => by injection hk with hk; rw [← hk]; exact h.nb), h.np, h.nb⟩
theorem aw1 : addOk 2 [] (ptA 5) [1, 2] ∧ moreH [] (ptA 5) [1, 2] = [(ptA 5, 1), (ptA 5, 2)] := by decide
theorem aw2 : ¬ addOk 2 [(ptA 5, 1), (ptA 5, 2)] (ptA 6) [1] := by decide
theorem aw3 : ackL [(ptA 5, 1), (ptA 5, 2)] 1 [ptA 5] = [(ptA 5, 2)] := by decide
theorem aw4 : srt (nodesP [(ptA 5, 2)] fun q => decide (q = ptA 5)) = [2] := by
  have e : nodesP [(ptA 5, 2)] (fun q => decide (q = ptA 5)) = [2] := by decide
  rw [e]
  exact srt_eq (List.pairwise_singleton _ _) (fun x => Iff.rfl)
theorem aw5 : forL [(ptA 5, 2)] 2 5 = [ptA 5] := by
  unfold forL
  have : pointsOf [(ptA 5, 2)] 2 = [ptA 5] := by decide
  rw [this, srtH_eq (List.Perm.refl _) (List.pairwise_singleton _ _)]; rfl
theorem ptA_w (t : Int) (h : I64 t) : PtW (ptA t) := ⟨show 1 ≤ maxLen by decide, h, (show I64 0 by unfold I64; omega), (show I64 1 by unfold I64; omega), (show I64 0 by unfold I64; omega), (show I64 1 by unfold I64; omega)⟩
set_option maxRecDepth 100000 in
set_option maxHeartbeats 4000000 in
theorem awake_calls (w : World) : Calls Try.prog 8 #[] w fun e w' => e = .returned (.bool true) ∧ Gr w w' := by
  go_enter Try.func8, Try.ntmps8
  go_wp2_with fail
  refine (hnew_calls 2 _).mono ?_
  rintro e w1 ⟨p, b, rfl, ha, hp, hb, hg⟩
  have H1 := Lib.hid (show OneH w w1 p b 2 [] from ⟨ha, hg, hp, hb⟩)
  clear ha hg hp hb
  go_wp2_with fail
  refine (point_calls _ _).mono ?_
  rintro e w2 ⟨rfl, hg2⟩
  have G2 := Lib.hid hg2
  clear hg2
  go_wp2_with fail
  refine (add_calls _ p (some b) 2 [] (H1.out.grow (G2.out.tr (Gr.al Gr.rfl' (.cells #[.int .i64 1, .int .i64 2] 3)))).at_ (by decide) (fun h => by cases h) (by decide) (ptA 5) (by decide) _ [1, 2] (rdI_lit w2 [1, 2] 3) (by decide)).mono ?_
  rintro e w3 ⟨rfl, ha, hb⟩
  rw [if_pos aw1.1, aw1.2] at ha
  rw [decide_eq_true aw1.1]
  have H3 := Lib.hid (show OneH w w3 p b 2 [(ptA 5, 1), (ptA 5, 2)] from (H1.out.grow (G2.out.tr (Gr.al Gr.rfl' (.cells #[.int .i64 1, .int .i64 2] 3)))).turn ha hb)
  clear ha hb H1 G2
  go_wp2_with fail
  refine (point_calls _ _).mono ?_
  rintro e w4 ⟨rfl, hg4⟩
  have G4 := Lib.hid hg4
  clear hg4
  go_wp2_with fail
  refine (add_calls _ p (some b) 2 [(ptA 5, 1), (ptA 5, 2)] (H3.out.grow (G4.out.tr (Gr.al Gr.rfl' (.cells #[.int .i64 1] 3)))).at_ (by decide) (fun h => by cases h) (by decide) (ptA 6) (by decide) _ [1] (rdI_lit w4 [1] 3) (by decide)).mono ?_
  rintro e w5 ⟨rfl, ha, hb⟩
  rw [if_neg aw2] at ha
  rw [decide_eq_false aw2]
  have H5 := Lib.hid ((H3.out.grow (G4.out.tr (Gr.al Gr.rfl' (.cells #[.int .i64 1] 3)))).turn ha hb)
  clear ha hb H3 G4
  go_wp2_with fail
  refine (point_calls _ _).mono ?_
  rintro e w6 ⟨rfl, hg6⟩
  have G6 := Lib.hid hg6
  clear hg6
  go_wp2_with fail
  have hal : Gr w6 (w6.alloc (.cells (ptC (ptA 5)).toArray 31)) := Gr.al Gr.rfl' _
  refine (ack_calls _ p (some b) 2 [(ptA 5, 1), (ptA 5, 2)] (H5.out.grow (G6.out.tr hal)).at_ (by decide) 1 (by decide) _ [ptA 5] (rdP_lit w6 (ptA 5) 31) (by decide) (fun x hx => by rw [List.mem_singleton.1 hx]; exact ptA_w 5 (by decide)) (fun a n c e z => by
    have e1 := (Value.slice.inj e).1
    injection e1 with e1
    subst e1
    injection z with z
    have h1 := (H5.out.grow G6.out).at_.map.lt b rfl
    have h2 : b = w6.heap.size := z
    omega)).mono ?_
  rintro e w7 ⟨rfl, ha, hb⟩
  rw [aw3] at ha ⊢
  have H7 := Lib.hid ((H5.out.grow (G6.out.tr hal)).turn ha hb)
  clear ha hb H5 G6 hal
  go_wp2_with fail
  refine (point_calls _ _).mono ?_
  rintro e w8 ⟨rfl, hg8⟩
  have H8 := Lib.hid (H7.out.grow hg8)
  clear hg8 H7
  go_wp2_with fail
  refine (howed_calls _ p b 2 _ H8.out.at_ (by decide) (ptA 5)).mono ?_
  rintro e w9 ⟨v9, rfl, hr9, hg9⟩
  rw [aw4] at hr9
  have H9 := Lib.hid (H8.out.grow hg9); have R9 := Lib.hid hr9
  clear hr9 hg9 H8
  go_wp2_with fail
  refine (same_calls _ _ [2] [2] _ (R9.out.gr (Gr.al Gr.rfl' _)) (rdI_lit w9 [2] 3) (by decide)).mono ?_
  rintro e w10 ⟨rfl, hg10⟩
  have H10 := Lib.hid (H9.out.grow ((Gr.al Gr.rfl' (.cells #[.int .i64 2] 3)).tr hg10))
  rw [decide_eq_true (rfl : ([2] : List Int) = [2])]
  clear hg10 H9 R9
  go_wp2_with fail
  refine (for_calls _ p b 2 _ H10.out.at_ (by decide) 2 5).mono ?_
  rintro e w11 ⟨v11, rfl, hr11, _, hg11⟩
  rw [aw5] at hr11
  obtain ⟨a11, c11, rfl, hc11⟩ : ∃ a c, v11 = .slice a 1 c ∧ 1 ≤ c := by obtain ⟨_, a, c, e, h, _⟩ := hr11; exact ⟨a, c, e, h⟩
  obtain ⟨bg, og, _, e1, _, hrg⟩ := rd_range ptC 6 (fun _ => rfl) hr11 (by decide)
  replace e1 := (Value.slice.inj e1).1
  subst e1
  have Hrg := Lib.hid (show w11.rangeAt bg og (ptC (ptA 5)) by have := hrg 0 (by decide); simpa using this)
  have G11 := Lib.hid (H10.out.gr.tr hg11)
  clear hr11 hrg hg11 H10
  go_wp2_with fail
  refine region_start (S := fun w' => Gr w11 w') (by kernel_rfl) (by exact Gr.dr Gr.rfl') (fun wz hz0 hHeld => ?_)
  simp only [List.size_toArray, List.length_cons, List.length_nil, Nat.reduceAdd]
  refine wpAnyH_take (i := 0) (oi := ?_) (v := ?_) ?_ (by kernel_rfl) (by kernel_rfl) (by kernel_rfl) ?_ ?_ (by assumption) ?_; rotate_left 2; (focus (simp only [List.getElem?_toArray, List.getElem?_cons_zero]; rfl)); (focus (exact fun _ _ _ h => h)); first | (focus (refine Or.inl ⟨by rfl, ?_⟩; intro w hSw; (try dsimp only at hSw); (try dsimp only [Array.getD]); go_simp; (try with_reducible rfl))) | (focus (refine Or.inr ⟨by rfl, ?_⟩; rfl)) | fail "op 0"
  try simp only [Act.put, List.setIfInBounds_toArray, List.set_cons_zero, List.set_cons_succ]
  refine wpAnyH_take (i := 1) (oi := ?_) (v := ?_) ?_ (by kernel_rfl) (by kernel_rfl) (by kernel_rfl) ?_ ?_ (by assumption) ?_; rotate_left 2; (focus (simp only [List.getElem?_toArray, List.getElem?_cons_succ, List.getElem?_cons_zero]; rfl)); (focus (exact fun _ _ _ h => h)); first | (focus (refine Or.inl ⟨by rfl, ?_⟩; intro w hSw; (try dsimp only at hSw); (try dsimp only [Array.getD]); go_simp; (try with_reducible rfl))) | (focus (refine Or.inr ⟨by rfl, ?_⟩; rfl)) | fail "op 1"
  try simp only [Act.put, List.setIfInBounds_toArray, List.set_cons_zero, List.set_cons_succ]
  refine wpAnyH_take (i := 2) (oi := ?_) (v := ?_) ?_ (by kernel_rfl) (by kernel_rfl) (by kernel_rfl) ?_ ?_ (by assumption) ?_; rotate_left 2; (focus (simp only [List.getElem?_toArray, List.getElem?_cons_succ, List.getElem?_cons_zero]; rfl)); (focus (exact fun _ _ _ h => h)); first | (focus (refine Or.inl ⟨by rfl, ?_⟩; intro w hSw; (try dsimp only at hSw); (try dsimp only [Array.getD]); go_simp; (try with_reducible rfl))) | (focus (refine Or.inr ⟨by rfl, ?_⟩; rfl)) | fail "op 2"
  try simp only [Act.put, List.setIfInBounds_toArray, List.set_cons_zero, List.set_cons_succ]
  refine wpAnyH_take (i := 3) (oi := ?_) (v := ?_) ?_ (by kernel_rfl) (by kernel_rfl) (by kernel_rfl) ?_ ?_ (by assumption) ?_; rotate_left 2; (focus (simp only [List.getElem?_toArray, List.getElem?_cons_succ, List.getElem?_cons_zero]; rfl)); (focus (exact fun _ _ _ h => h)); first | (focus (refine Or.inl ⟨by rfl, ?_⟩; intro w hSw; (try dsimp only at hSw); (try dsimp only [Array.getD]); go_simp; (try with_reducible rfl))) | (focus (refine Or.inr ⟨by rfl, ?_⟩; rfl)) | fail "op 3"
  try simp only [Act.put, List.setIfInBounds_toArray, List.set_cons_zero, List.set_cons_succ]
  refine wpAnyH_take (i := 4) (oi := ?_) (v := ?_) ?_ (by kernel_rfl) (by kernel_rfl) (by kernel_rfl) ?_ ?_ (by assumption) ?_; rotate_left 2; (focus (simp only [List.getElem?_toArray, List.getElem?_cons_succ, List.getElem?_cons_zero]; rfl)); (focus (exact fun _ _ _ h => h)); first | (focus (refine Or.inl ⟨by rfl, ?_⟩; intro w hSw; (try dsimp only at hSw); (try dsimp only [Array.getD]); go_simp; (try with_reducible rfl))) | (focus (refine Or.inr ⟨by rfl, ?_⟩; rfl)) | fail "op 4"
  try simp only [Act.put, List.setIfInBounds_toArray, List.set_cons_zero, List.set_cons_succ]
  refine wpAnyH_take (i := 5) (oi := ?_) (v := ?_) ?_ (by kernel_rfl) (by kernel_rfl) (by kernel_rfl) ?_ ?_ (by assumption) ?_; rotate_left 2; (focus (simp only [List.getElem?_toArray, List.getElem?_cons_succ, List.getElem?_cons_zero]; rfl)); (focus (exact fun _ _ _ h => h)); first | (focus (refine Or.inl ⟨by rfl, ?_⟩; intro w hSw; (try dsimp only at hSw); (try dsimp only [Array.getD]); go_simp; (try with_reducible rfl))) | (focus (refine Or.inr ⟨by rfl, ?_⟩; rfl)) | fail "op 5"
  try simp only [Act.put, List.setIfInBounds_toArray, List.set_cons_zero, List.set_cons_succ]
  refine wpAnyH_take (i := 6) (oi := ?_) (v := ?_) ?_ (by kernel_rfl) (by kernel_rfl) (by kernel_rfl) ?_ ?_ (by assumption) ?_; rotate_left 2; (focus (simp only [List.getElem?_toArray, List.getElem?_cons_succ, List.getElem?_cons_zero]; rfl)); (focus (exact fun _ _ _ h => h)); first | (focus (refine Or.inl ⟨by rfl, ?_⟩; intro w hSw; (try dsimp only at hSw); (try dsimp only [Array.getD]); go_simp; (try with_reducible rfl))) | (focus (refine Or.inr ⟨by rfl, ?_⟩; rfl)) | fail "op 6"
  try simp only [Act.put, List.setIfInBounds_toArray, List.set_cons_zero, List.set_cons_succ]
  refine wpAnyH_take (i := 7) (oi := ?_) (v := ?_) ?_ (by kernel_rfl) (by kernel_rfl) (by kernel_rfl) ?_ ?_ (by assumption) ?_; rotate_left 2; (focus (simp only [List.getElem?_toArray, List.getElem?_cons_succ, List.getElem?_cons_zero]; rfl)); (focus (exact fun _ _ _ h => h)); first | (focus (refine Or.inl ⟨by rfl, ?_⟩; intro w hSw; (try dsimp only at hSw); (try dsimp only [Array.getD]); go_simp; (try with_reducible rfl))) | (focus (refine Or.inr ⟨by rfl, ?_⟩; rfl)) | fail "op 7"
  try simp only [Act.put, List.setIfInBounds_toArray, List.set_cons_zero, List.set_cons_succ]
  refine wpAnyH_take (i := 8) (oi := ?_) (v := ?_) ?_ (by kernel_rfl) (by kernel_rfl) (by kernel_rfl) ?_ ?_ (by assumption) ?_; rotate_left 2; (focus (simp only [List.getElem?_toArray, List.getElem?_cons_succ, List.getElem?_cons_zero]; rfl)); (focus (exact fun _ _ _ h => h)); first | (focus (refine Or.inl ⟨by rfl, ?_⟩; intro w hSw; (try dsimp only at hSw); (try dsimp only [Array.getD]); go_simp; (try with_reducible rfl))) | (focus (refine Or.inr ⟨by rfl, ?_⟩; rfl)) | fail "op 8"
  try simp only [Act.put, List.setIfInBounds_toArray, List.set_cons_zero, List.set_cons_succ]
  refine wpAnyH_take (i := 9) (oi := ?_) (v := ?_) ?_ (by kernel_rfl) (by kernel_rfl) (by kernel_rfl) ?_ ?_ (by assumption) ?_; rotate_left 2; (focus (simp only [List.getElem?_toArray, List.getElem?_cons_succ, List.getElem?_cons_zero]; rfl)); (focus (exact fun _ _ _ h => h)); first | (focus (refine Or.inl ⟨by rfl, ?_⟩; intro w hSw; (try dsimp only at hSw); (try dsimp only [Array.getD]); go_simp; (try with_reducible rfl))) | (focus (refine Or.inr ⟨by rfl, ?_⟩; rfl)) | fail "op 9"
  try simp only [Act.put, List.setIfInBounds_toArray, List.set_cons_zero, List.set_cons_succ]
  refine wpAnyH_take (i := 10) (oi := ?_) (v := ?_) ?_ (by kernel_rfl) (by kernel_rfl) (by kernel_rfl) ?_ ?_ (by assumption) ?_; rotate_left 2; (focus (simp only [List.getElem?_toArray, List.getElem?_cons_succ, List.getElem?_cons_zero]; rfl)); (focus (exact fun _ _ _ h => h)); first | (focus (refine Or.inl ⟨by rfl, ?_⟩; intro w hSw; (try dsimp only at hSw); (try dsimp only [Array.getD]); go_simp; (try with_reducible rfl))) | (focus (refine Or.inr ⟨by rfl, ?_⟩; rfl)) | fail "op 10"
  try simp only [Act.put, List.setIfInBounds_toArray, List.set_cons_zero, List.set_cons_succ]
  refine wpAnyH_take (i := 11) (oi := ?_) (v := ?_) ?_ (by kernel_rfl) (by kernel_rfl) (by kernel_rfl) ?_ ?_ (by assumption) ?_; rotate_left 2; (focus (simp only [List.getElem?_toArray, List.getElem?_cons_succ, List.getElem?_cons_zero]; rfl)); (focus (exact fun _ _ _ h => h)); first | (focus (refine Or.inl ⟨by rfl, ?_⟩; intro w hSw; (try dsimp only at hSw); (try dsimp only [Array.getD]); go_simp; (try with_reducible rfl))) | (focus (refine Or.inr ⟨by rfl, ?_⟩; rfl)) | fail "op 11"
  try simp only [Act.put, List.setIfInBounds_toArray, List.set_cons_zero, List.set_cons_succ]
  refine wpAnyH_take (i := 12) (oi := ?_) (v := ?_) ?_ (by kernel_rfl) (by kernel_rfl) (by kernel_rfl) ?_ ?_ (by assumption) ?_; rotate_left 2; (focus (simp only [List.getElem?_toArray, List.getElem?_cons_succ, List.getElem?_cons_zero]; rfl)); (focus (exact fun _ _ _ h => h)); first | (focus (refine Or.inl ⟨by rfl, ?_⟩; intro w hSw; (try dsimp only at hSw); (try dsimp only [Array.getD]); go_simp; (try with_reducible rfl))) | (focus (refine Or.inr ⟨by rfl, ?_⟩; rfl)) | fail "op 12"
  try simp only [Act.put, List.setIfInBounds_toArray, List.set_cons_zero, List.set_cons_succ]
  refine wpAnyH_take (i := 13) (oi := ?_) (v := ?_) ?_ (by kernel_rfl) (by kernel_rfl) (by kernel_rfl) ?_ ?_ (by assumption) ?_; rotate_left 2; (focus (simp only [List.getElem?_toArray, List.getElem?_cons_succ, List.getElem?_cons_zero]; rfl)); (focus (exact fun _ _ _ h => h)); first | (focus (refine Or.inl ⟨by rfl, ?_⟩; intro w hSw; (try dsimp only at hSw); (try dsimp only [Array.getD]); go_simp; (try with_reducible rfl))) | (focus (refine Or.inr ⟨by rfl, ?_⟩; rfl)) | fail "op 13"
  try simp only [Act.put, List.setIfInBounds_toArray, List.set_cons_zero, List.set_cons_succ]
  refine wpAnyH_take (i := 14) (oi := ?_) (v := ?_) ?_ (by kernel_rfl) (by kernel_rfl) (by kernel_rfl) ?_ ?_ (by assumption) ?_; rotate_left 2; (focus (simp only [List.getElem?_toArray, List.getElem?_cons_succ, List.getElem?_cons_zero]; rfl)); (focus (exact fun _ _ _ h => h)); first | (focus (refine Or.inl ⟨by rfl, ?_⟩; intro w hSw; (try dsimp only at hSw); (try dsimp only [Array.getD]); go_simp; (try with_reducible rfl))) | (focus (refine Or.inr ⟨by rfl, ?_⟩; rfl)) | fail "op 14"
  try simp only [Act.put, List.setIfInBounds_toArray, List.set_cons_zero, List.set_cons_succ]
  refine wpAnyH_take (i := 15) (oi := ?_) (v := ?_) ?_ (by kernel_rfl) (by kernel_rfl) (by kernel_rfl) ?_ ?_ (by assumption) ?_; rotate_left 2; (focus (simp only [List.getElem?_toArray, List.getElem?_cons_succ, List.getElem?_cons_zero]; rfl)); (focus (exact fun _ _ _ h => h)); first | (focus (refine Or.inl ⟨by rfl, ?_⟩; intro w hSw; (try dsimp only at hSw); (try dsimp only [Array.getD]); go_simp; (try with_reducible rfl))) | (focus (refine Or.inr ⟨by rfl, ?_⟩; rfl)) | fail "op 15"
  try simp only [Act.put, List.setIfInBounds_toArray, List.set_cons_zero, List.set_cons_succ]
  refine wpAnyH_take (i := 16) (oi := ?_) (v := ?_) ?_ (by kernel_rfl) (by kernel_rfl) (by kernel_rfl) ?_ ?_ (by assumption) ?_; rotate_left 2; (focus (simp only [List.getElem?_toArray, List.getElem?_cons_succ, List.getElem?_cons_zero]; rfl)); (focus (exact fun _ _ _ h => h)); first | (focus (refine Or.inl ⟨by rfl, ?_⟩; intro w hSw; (try dsimp only at hSw); (try dsimp only [Array.getD]); go_simp; (try with_reducible rfl))) | (focus (refine Or.inr ⟨by rfl, ?_⟩; rfl)) | fail "op 16"
  try simp only [Act.put, List.setIfInBounds_toArray, List.set_cons_zero, List.set_cons_succ]
  refine wpAnyH_take (i := 17) (oi := ?_) (v := ?_) ?_ (by kernel_rfl) (by kernel_rfl) (by kernel_rfl) ?_ ?_ (by assumption) ?_; rotate_left 2; (focus (simp only [List.getElem?_toArray, List.getElem?_cons_succ, List.getElem?_cons_zero]; rfl)); (focus (exact fun _ _ _ h => h)); first | (focus (refine Or.inl ⟨by rfl, ?_⟩; intro w hSw; (try dsimp only at hSw); (try dsimp only [Array.getD]); go_simp; (try with_reducible rfl))) | (focus (refine Or.inr ⟨by rfl, ?_⟩; rfl)) | fail "op 17"
  try simp only [Act.put, List.setIfInBounds_toArray, List.set_cons_zero, List.set_cons_succ]
  refine wpAnyH_take (i := 18) (oi := ?_) (v := ?_) ?_ (by kernel_rfl) (by kernel_rfl) (by kernel_rfl) ?_ ?_ (by assumption) ?_; rotate_left 2; (focus (simp only [List.getElem?_toArray, List.getElem?_cons_succ, List.getElem?_cons_zero]; rfl)); (focus (exact fun _ _ _ h => h)); first | (focus (refine Or.inl ⟨by rfl, ?_⟩; intro w hSw; (try dsimp only at hSw); (try dsimp only [Array.getD]); go_simp; (try with_reducible rfl))) | (focus (refine Or.inr ⟨by rfl, ?_⟩; rfl)) | fail "op 18"
  try simp only [Act.put, List.setIfInBounds_toArray, List.set_cons_zero, List.set_cons_succ]
  refine wpAnyH_take (i := 19) (oi := ?_) (v := ?_) ?_ (by kernel_rfl) (by kernel_rfl) (by kernel_rfl) ?_ ?_ (by assumption) ?_; rotate_left 2; (focus (simp only [List.getElem?_toArray, List.getElem?_cons_succ, List.getElem?_cons_zero]; rfl)); (focus (exact fun _ _ _ h => h)); first | (focus (refine Or.inl ⟨by rfl, ?_⟩; intro w hSw; (try dsimp only at hSw); (try dsimp only [Array.getD]); go_simp; (try with_reducible rfl))) | (focus (refine Or.inr ⟨by rfl, ?_⟩; rfl)) | fail "op 19"
  try simp only [Act.put, List.setIfInBounds_toArray, List.set_cons_zero, List.set_cons_succ]
  refine wpAnyH_take (i := 20) (oi := ?_) (v := ?_) ?_ (by kernel_rfl) (by kernel_rfl) (by kernel_rfl) ?_ ?_ (by assumption) ?_; rotate_left 2; (focus (simp only [List.getElem?_toArray, List.getElem?_cons_succ, List.getElem?_cons_zero]; rfl)); (focus (exact fun _ _ _ h => h)); first | (focus (refine Or.inl ⟨by rfl, ?_⟩; intro w hSw; (try dsimp only at hSw); refine (exec_load_mid 31 (.tmp 48) (by rfl) bg og (by rfl) (ptC (ptA 5)) _ (rangeAt_gr hSw Hrg.out) Try.underlying31 rfl info_pt).trans ?_; with_reducible rfl)) | (focus (refine Or.inr ⟨by rfl, ?_⟩; rfl)) | fail "op 20"
  try simp only [Act.put, List.setIfInBounds_toArray, List.set_cons_zero, List.set_cons_succ]
  refine wpAnyH_ready (rs := [21]) (by kernel_rfl) (by simp) ?_
  refine AllReadyH.cons (o := ?_) ?_ (fun K hK => ?_) AllReadyH.nil; rotate_left; (focus (simp only [List.getElem?_toArray, List.getElem?_cons_succ, List.getElem?_cons_zero]; rfl))
  rw [if_pos (by rfl)]
  go_simp
  go_at_call 18
  refine (point_calls _ _).mono ?_
  rintro e w12 ⟨rfl, hg12⟩
  refine hK.out _ _ (hHeld.tr hg12) (fun hHeld => ?_)
  clear hK K
  try simp only [Act.put, List.setIfInBounds_toArray, List.set_cons_zero, List.set_cons_succ]
  refine wpAnyH_take (i := 22) (oi := ?_) (v := ?_) ?_ (by kernel_rfl) (by kernel_rfl) (by kernel_rfl) ?_ ?_ (by assumption) ?_; rotate_left 2; (focus (simp only [List.getElem?_toArray, List.getElem?_cons_succ, List.getElem?_cons_zero]; rfl)); (focus (exact fun _ _ _ h => h)); first | (focus (refine Or.inl ⟨by rfl, ?_⟩; intro w hSw; (try dsimp only at hSw); (try dsimp only [Array.getD]); go_simp; (try with_reducible rfl))) | (focus (refine Or.inr ⟨by rfl, ?_⟩; rfl)) | fail "op 22"
  try simp only [Act.put, List.setIfInBounds_toArray, List.set_cons_zero, List.set_cons_succ]
  refine wpAnyH_take (i := 23) (oi := ?_) (v := ?_) ?_ (by kernel_rfl) (by kernel_rfl) (by kernel_rfl) ?_ ?_ (by assumption) ?_; rotate_left 2; (focus (simp only [List.getElem?_toArray, List.getElem?_cons_succ, List.getElem?_cons_zero]; rfl)); (focus (exact fun _ _ _ h => h)); first | (focus (refine Or.inl ⟨by rfl, ?_⟩; intro w hSw; (try dsimp only at hSw); (try dsimp only [Array.getD]); go_simp; (try with_reducible rfl))) | (focus (refine Or.inr ⟨by rfl, ?_⟩; rfl)) | fail "op 23"
  try simp only [Act.put, List.setIfInBounds_toArray, List.set_cons_zero, List.set_cons_succ]
  refine wpAnyH_take (i := 24) (oi := ?_) (v := ?_) ?_ (by kernel_rfl) (by kernel_rfl) (by kernel_rfl) ?_ ?_ (by assumption) ?_; rotate_left 2; (focus (simp only [List.getElem?_toArray, List.getElem?_cons_succ, List.getElem?_cons_zero]; rfl)); (focus (exact fun _ _ _ h => h)); first | (focus (refine Or.inl ⟨by rfl, ?_⟩; intro w hSw; (try dsimp only at hSw); (try dsimp only [Array.getD]); go_simp; (try with_reducible rfl))) | (focus (refine Or.inr ⟨by rfl, ?_⟩; rfl)) | fail "op 24"
  try simp only [Act.put, List.setIfInBounds_toArray, List.set_cons_zero, List.set_cons_succ]
  refine wpAnyH_done (by kernel_rfl) ?_ _
  go_wp2_with fail
  go_ret
  exact ⟨rfl, G11.out.tr hHeld⟩
end Go.Proofs.Ytijgbfhjimlklaa

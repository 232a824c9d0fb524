/- Hints: how points are held against each other, and sorted. -/
import Derived.Test.YtijgbfhjimlklaaHnB
import Derived.Test.YtijgbfhjimlklaaUs
import Derived.Test.YtijgbfhjimlklaaLa
namespace Go.Proofs.Ytijgbfhjimlklaa
open Go.RowKit Go.Sort Go.Shelf

def cmpI (a b : Int) : Int := if a < b then -1 else if b < a then 1 else 0
def cmpS (a b : ByteArray) : Int := if sb a < sb b then -1 else if sb b < sb a then 1 else 0
theorem nanS_calls (a : ByteArray) (w : World) : Calls Try.prog 68 #[.string a] w fun e w' => e = .returned (.bool false) ∧ w = w' := by
  go_enter Try.func68, Try.ntmps68
  go_wp2
  go_ret
  exact ⟨rfl, rfl⟩
theorem nanI_calls (a : Int) (w : World) : Calls Try.prog 69 #[.int .i64 a] w fun e w' => e = .returned (.bool false) ∧ w = w' := by
  go_enter Try.func69, Try.ntmps69
  go_wp2
  go_ret
  exact ⟨rfl, rfl⟩
theorem nanL_calls (a : Int) (w : World) : Calls Try.prog 71 #[.int .i64 a] w fun e w' => e = .returned (.bool false) ∧ w = w' := by
  go_enter Try.func71, Try.ntmps71
  go_wp2
  go_ret
  exact ⟨rfl, rfl⟩
theorem cmpN_calls (a b : Int) (w : World) : Calls Try.prog 50 #[.int .i64 a, .int .i64 b] w fun e w' => e = .returned (.int .i64 (cmpI a b)) ∧ w = w' := by
  go_enter Try.func50, Try.ntmps50
  go_wp2_with (go_at_call 69; refine (nanI_calls _ _).mono ?_; rintro e w' ⟨rfl, rfl⟩)
  all_goals
    go_ret
    exact ⟨ret_i rfl (by unfold cmpI; repeat' split
                         all_goals omega), rfl⟩
theorem cmpL_calls (a b : Int) (w : World) : Calls Try.prog 52 #[.int .i64 a, .int .i64 b] w fun e w' => e = .returned (.int .i64 (cmpI a b)) ∧ w = w' := by
  go_enter Try.func52, Try.ntmps52
  go_wp2_with (go_at_call 71; refine (nanL_calls _ _).mono ?_; rintro e w' ⟨rfl, rfl⟩)
  all_goals
    go_ret
    exact ⟨ret_i rfl (by unfold cmpI; repeat' split
                         all_goals omega), rfl⟩
theorem cmpT_calls (a b : ByteArray) (w : World) : Calls Try.prog 49 #[.string a, .string b] w fun e w' => e = .returned (.int .i64 (cmpS a b)) ∧ w = w' := by
  have hcs : (Op.bytesLess a.toList b.toList = true ∧ cmpS a b = -1) ∨ (Op.bytesLess a.toList b.toList = false ∧ (a.toList == b.toList) = true ∧ cmpS a b = 0) ∨ (Op.bytesLess a.toList b.toList = false ∧ (a.toList == b.toList) = false ∧ cmpS a b = 1) := by
    rw [less_sb, eq_sb]
    unfold cmpS
    rcases sb_tri a b with h | h | h
    · exact .inl ⟨decide_eq_true h, if_pos h⟩
    · subst h; exact .inr (.inl ⟨decide_eq_false (sb_irr _), decide_eq_true rfl, by rw [if_neg (sb_irr _), if_neg (sb_irr _)]⟩)
    · have h1 : ¬ sb a < sb b := fun z => List.lt_asymm h z
      have h2 : a ≠ b := fun e => by rw [e] at h; exact sb_irr _ h
      exact .inr (.inr ⟨decide_eq_false h1, decide_eq_false h2, by rw [if_neg h1, if_pos h]⟩)
  rcases hcs with ⟨h1, hr⟩ | ⟨h1, h2, hr⟩ | ⟨h1, h2, hr⟩
  all_goals
    rw [hr]
    clear hr
    go_enter Try.func49, Try.ntmps49
    go_wp2_with (go_at_call 68; refine (nanS_calls _ _).mono ?_; rintro e w' ⟨rfl, rfl⟩)
    all_goals
      go_ret
      exact ⟨rfl, rfl⟩
theorem stamps_calls (a b : Pt) (w : World) : Calls Try.prog 51 #[stV a, stV b] w fun e w' => e = .returned (.int .i64 (if lessT a b then -1 else if lessT b a then 1 else 0)) ∧ Gw w w' := by
  have H1 := Lib.hid (fun W => less_calls a b W); have H2 := Lib.hid (fun W => less_calls b a W)
  by_cases h : lessT a b
  · rw [if_pos h]
    rw [decide_eq_true h] at H1
    clear h
    go_enter Try.func51, Try.ntmps51
    go_wp2_with fail
    refine (H1.out _).mono ?_
    rintro e w1 ⟨rfl, hgw⟩
    go_wp2_with fail
    go_ret
    exact ⟨rfl, Gw.tr (Gw.al (Gw.al Gw.rfl' _) _) hgw⟩
  · rw [if_neg h]
    rw [decide_eq_false h] at H1
    clear h
    by_cases h : lessT b a
    all_goals
      (first | rw [if_pos h] | rw [if_neg h])
      (first | rw [decide_eq_true h] at H2 | rw [decide_eq_false h] at H2)
      clear h
      go_enter Try.func51, Try.ntmps51
      go_wp2_with fail
      refine (H1.out _).mono ?_
      rintro e w1 ⟨rfl, hgw⟩
      have hg := hgw.gr
      obtain ⟨hc, hf⟩ := bcell hg
      have hz := hg.size
      (try simp at hz)
      have z0 : w.heap.size < w1.heap.size := by omega
      have z1 : w.heap.size + 1 < w1.heap.size := by omega
      have B0 : w1.heap[w.heap.size]? = some (.cells #[.int .i64 a.c, .int .i64 a.st, .int .i64 a.q] 29 (0, 0)) := hg.blk ((Gr.al Gr.rfl' _).blk (heap_alloc_new w _))
      have B1 : w1.heap[w.heap.size + 1]? = some (.cells #[.int .i64 b.c, .int .i64 b.st, .int .i64 b.q] 29 (0, 0)) := hg.blk (by have := heap_alloc_new (w.alloc (.cells #[.int .i64 a.c, .int .i64 a.st, .int .i64 a.q] 29)) (.cells #[.int .i64 b.c, .int .i64 b.st, .int .i64 b.q] 29); simpa using this)
      go_wp2_with fail
      refine (H2.out _).mono ?_
      rintro e w2 ⟨rfl, hg2⟩
      go_wp2_with fail
      go_ret
      exact ⟨rfl, (Gw.tr (Gw.al (Gw.al Gw.rfl' _) _) hgw).tr hg2⟩
/-- Hints' order. -/
def cmpH (a b : Pt) : Int := if cmpS a.s b.s ≠ 0 then cmpS a.s b.s else if cmpI a.t b.t ≠ 0 then cmpI a.t b.t else if (if lessT a b then -1 else if lessT b a then 1 else 0 : Int) ≠ 0 then (if lessT a b then -1 else if lessT b a then 1 else 0 : Int) else cmpI a.v b.v
/-- Four numbers: the first one that is not 0. -/
def or4 (a b c d : Int) : Int := if a ≠ 0 then a else if b ≠ 0 then b else if c ≠ 0 then c else d
set_option maxHeartbeats 1000000 in
theorem or_calls (a b c d : Int) (g : Nat) (w : World) (h0 : w.cell? ⟨g, 0, none⟩ = some (.int .i64 a)) (h1 : w.cell? ⟨g, 1, none⟩ = some (.int .i64 b)) (h2 : w.cell? ⟨g, 2, none⟩ = some (.int .i64 c)) (h3 : w.cell? ⟨g, 3, none⟩ = some (.int .i64 d)) :
    Calls Try.prog 48 #[.slice (some ⟨g, 0, none⟩) 4 4] w fun e w' => e = .returned (.int .i64 (or4 a b c d)) ∧ w = w' := by
  obtain ⟨f, hf⟩ : ∃ f : Nat → Int, f 0 = a ∧ f 1 = b ∧ f 2 = c ∧ f 3 = d := ⟨fun i => match i with | 0 => a | 1 => b | 2 => c | _ => d, rfl, rfl, rfl, rfl⟩
  obtain ⟨f0, f1, f2, f3⟩ := hf
  have hc : ∀ i, i < 4 → w.cell? ⟨g, i, none⟩ = some (.int .i64 (f i)) := fun i hi => by
    match i, hi with
    | 0, _ => rw [f0]; exact h0
    | 1, _ => rw [f1]; exact h1
    | 2, _ => rw [f2]; exact h2
    | 3, _ => rw [f3]; exact h3
  have hr : ∀ i, i < 4 → f i ≠ 0 → (∀ j, j < i → f j = 0) → f i = or4 a b c d := fun i hi hn hz => by
    unfold or4
    rw [← f0, ← f1, ← f2, ← f3]
    match i, hi with
    | 0, _ => rw [if_pos hn]
    | 1, _ => rw [if_neg (fun z => z (hz 0 (by decide))), if_pos hn]
    | 2, _ => rw [if_neg (fun z => z (hz 0 (by decide))), if_neg (fun z => z (hz 1 (by decide))), if_pos hn]
    | 3, _ => rw [if_neg (fun z => z (hz 0 (by decide))), if_neg (fun z => z (hz 1 (by decide))), if_neg (fun z => z (hz 2 (by decide)))]
  have hr0 : (∀ j, j < 4 → f j = 0) → 0 = or4 a b c d := fun hz => by
    unfold or4
    rw [← f0, ← f1, ← f2, ← f3, hz 0 (by decide), hz 1 (by decide), hz 2 (by decide), hz 3 (by decide)]; rfl
  generalize or4 a b c d = r at *
  have Hc := Lib.hid hc; have Hr := Lib.hid hr; have Hr0 := Lib.hid hr0
  clear hc hr hr0 h0 h1 h2 h3 f0 f1 f2 f3 a b c d
  go_enter Try.func48, Try.ntmps48
  go_wp2_with fail
  go_loopw [8] (fun iv wr => ∃ i : Nat, i ≤ 4 ∧ iv = .int .i64 i ∧ Hid (∀ j, j < i → f j = 0) ∧ w = wr) (fun iv _ => 4 - (intOf iv).toNat)
  case atStart => exact ⟨0, by decide, rfl, Lib.hid (fun j hj => by omega), rfl⟩
  case round =>
    obtain ⟨i, hi, rfl, hz, rfl⟩ := hrel
    by_cases hlt : i < 4
    · have hlt' : (i : Int) < 4 := by omega
      have hci := Hc.out i hlt
      by_cases h : f i = 0
      · have h' : (f i == 0) = true := by simp [h]
        have HZ := Lib.hid (show ∀ j, j < i + 1 → f j = 0 from fun j hj => by
          by_cases e : j = i
          · rw [e]; exact h
          · exact hz.out j (by omega))
        clear h
        go_wp2_with fail
        go_roundw
        case rel => exact ⟨i + 1, by omega, by go_num, HZ, trivial⟩
        case measure => simp [intOf]; omega
      · have h' : (f i == 0) = false := by simp [h]
        have e := Hr.out i hlt h hz.out
        have E := Lib.hid e
        clear h e
        go_wp2_with fail
        go_ret
        exact ⟨ret_i rfl E.out, rfl⟩
    · obtain rfl : i = 4 := by omega
      have E := Lib.hid (Hr0.out hz.out)
      go_wp2_with fail
      go_ret
      exact ⟨ret_i rfl E.out, rfl⟩
theorem pt_cells {w : World} {A : Nat} {p : Pt} {T : TypeId} (h : w.heap[A]? = some (.cells (ptC p).toArray T (0, 0))) :
    w.cell? ⟨A, 0, none⟩ = some (.string p.s) ∧ w.cell? ⟨A, 1, none⟩ = some (.int .i64 p.t) ∧ w.cell? ⟨A, 2, none⟩ = some (.int .i64 p.v) ∧ w.cell? ⟨A, 3, none⟩ = some (.int .i64 p.c) ∧ w.cell? ⟨A, 4, none⟩ = some (.int .i64 p.st) ∧ w.cell? ⟨A, 5, none⟩ = some (.int .i64 p.q) :=
  ⟨(cell_of_row w A 0 _ _ _ h).trans rfl, (cell_of_row w A 1 _ _ _ h).trans rfl, (cell_of_row w A 2 _ _ _ h).trans rfl, (cell_of_row w A 3 _ _ _ h).trans rfl, (cell_of_row w A 4 _ _ _ h).trans rfl, (cell_of_row w A 5 _ _ _ h).trans rfl⟩
theorem pt_stamp {w : World} {A : Nat} {p : Pt} {T : TypeId} (h : w.heap[A]? = some (.cells (ptC p).toArray T (0, 0))) : w.rangeAt A 3 [.int .i64 p.c, .int .i64 p.st, .int .i64 p.q] :=
  rangeAt_blk h 3 _ (fun j u hu => by
    match j, hu with
    | 0, hu => exact hu
    | 1, hu => exact hu
    | 2, hu => exact hu)
theorem info_st : (Try.prog.info? 29).map (·.size) = some 3 := by kernel_rfl
set_option maxRecDepth 100000 in
set_option maxHeartbeats 1000000 in
theorem order_calls (x y : Pt) (W : World) : Calls Try.prog 36 #[ptV x, ptV y] W fun e w' => e = .returned (.int .i64 (cmpH x y)) ∧ Gw W w' := by
  have Hr := Lib.hid (show or4 (cmpS x.s y.s) (cmpI x.t y.t) (if lessT x y then -1 else if lessT y x then 1 else 0) (cmpI x.v y.v) = cmpH x y from rfl)
  have HS := Lib.hid (fun w => stamps_calls x y w)
  obtain ⟨z, hz⟩ : ∃ z, (if lessT x y then -1 else if lessT y x then 1 else 0 : Int) = z := ⟨_, rfl⟩
  rw [hz] at Hr HS
  clear hz
  go_enter Try.func36, Try.ntmps36
  go_wp2_with fail
  have BX := Lib.hid ((Gr.al Gr.rfl' (.cells (ptC y).toArray 31)).blk (heap_alloc_new W (.cells (ptC x).toArray 31)))
  have BY := Lib.hid (show ((W.alloc (.cells (ptC x).toArray 31)).alloc (.cells (ptC y).toArray 31)).heap[W.heap.size + 1]? = some (.cells (ptC y).toArray 31 (0, 0)) by have := heap_alloc_new (W.alloc (.cells (ptC x).toArray 31)) (.cells (ptC y).toArray 31); simpa using this)
  have HG := Lib.hid (Gw.al (Gw.al (Gw.rfl' (W := W)) (.cells (ptC x).toArray 31)) (.cells (ptC y).toArray 31))
  unfold ptC at BX BY HG
  obtain ⟨W2, hW2⟩ : ∃ W2, ((W.alloc (.cells #[.string x.s, .int .i64 x.t, .int .i64 x.v, .int .i64 x.c, .int .i64 x.st, .int .i64 x.q] 31)).alloc (.cells #[.string y.s, .int .i64 y.t, .int .i64 y.v, .int .i64 y.c, .int .i64 y.st, .int .i64 y.q] 31)) = W2 := ⟨_, rfl⟩
  rw [hW2] at BX BY HG ⊢
  clear hW2
  obtain ⟨A, hA⟩ : ∃ A, W.heap.size = A := ⟨_, rfl⟩
  rw [hA] at BX BY ⊢
  obtain ⟨A', hA'⟩ : ∃ A', A + 1 = A' := ⟨_, rfl⟩
  rw [hA'] at BY ⊢
  clear hA hA'
  refine region_start (S := fun w' => Gw W2 w') (by kernel_rfl) (by exact Gw.dr Gw.rfl') (fun wz hz0 hHeld => ?_)
  simp only [List.size_toArray, List.length_cons, List.length_nil, Nat.reduceAdd]
  refine wpAnyH_take (i := 0) (oi := ?_) (v := ?_) ?_ (by kernel_rfl) (by kernel_rfl) (by kernel_rfl) ?_ ?_ (by assumption) ?_; rotate_left 2; (focus (simp only [List.getElem?_toArray, List.getElem?_cons_zero]; rfl)); (focus (exact fun _ _ _ h => h)); first | (focus (refine Or.inl ⟨by rfl, ?_⟩; intro w hSw; (try dsimp only at hSw); (try dsimp only [Array.getD]); go_simp; (try with_reducible rfl))) | (focus (refine Or.inr ⟨by rfl, ?_⟩; rfl)) | fail "op 0"
  try simp only [Act.put, List.setIfInBounds_toArray, List.set_cons_zero, List.set_cons_succ]
  refine wpAnyH_take (i := 1) (oi := ?_) (v := ?_) ?_ (by kernel_rfl) (by kernel_rfl) (by kernel_rfl) ?_ ?_ (by assumption) ?_; rotate_left 2; (focus (simp only [List.getElem?_toArray, List.getElem?_cons_succ, List.getElem?_cons_zero]; rfl)); (focus (exact fun _ _ _ h => h)); first | (focus (refine Or.inl ⟨by rfl, ?_⟩; intro w hSw; (try dsimp only at hSw); obtain ⟨x0, x1, x2, x3, x4, x5⟩ := pt_cells (p := x) (hSw.gr.blk BX.out); obtain ⟨y0, y1, y2, y3, y4, y5⟩ := pt_cells (p := y) (hSw.gr.blk BY.out); (try dsimp only [Array.getD]); go_simp; (try with_reducible rfl))) | (focus (refine Or.inr ⟨by rfl, ?_⟩; rfl)) | fail "op 1"
  try simp only [Act.put, List.setIfInBounds_toArray, List.set_cons_zero, List.set_cons_succ]
  refine wpAnyH_take (i := 2) (oi := ?_) (v := ?_) ?_ (by kernel_rfl) (by kernel_rfl) (by kernel_rfl) ?_ ?_ (by assumption) ?_; rotate_left 2; (focus (simp only [List.getElem?_toArray, List.getElem?_cons_succ, List.getElem?_cons_zero]; rfl)); (focus (exact fun _ _ _ h => h)); first | (focus (refine Or.inl ⟨by rfl, ?_⟩; intro w hSw; (try dsimp only at hSw); (try dsimp only [Array.getD]); go_simp; (try with_reducible rfl))) | (focus (refine Or.inr ⟨by rfl, ?_⟩; rfl)) | fail "op 2"
  try simp only [Act.put, List.setIfInBounds_toArray, List.set_cons_zero, List.set_cons_succ]
  refine wpAnyH_take (i := 3) (oi := ?_) (v := ?_) ?_ (by kernel_rfl) (by kernel_rfl) (by kernel_rfl) ?_ ?_ (by assumption) ?_; rotate_left 2; (focus (simp only [List.getElem?_toArray, List.getElem?_cons_succ, List.getElem?_cons_zero]; rfl)); (focus (exact fun _ _ _ h => h)); first | (focus (refine Or.inl ⟨by rfl, ?_⟩; intro w hSw; (try dsimp only at hSw); obtain ⟨x0, x1, x2, x3, x4, x5⟩ := pt_cells (p := x) (hSw.gr.blk BX.out); obtain ⟨y0, y1, y2, y3, y4, y5⟩ := pt_cells (p := y) (hSw.gr.blk BY.out); (try dsimp only [Array.getD]); go_simp; (try with_reducible rfl))) | (focus (refine Or.inr ⟨by rfl, ?_⟩; rfl)) | fail "op 3"
  try simp only [Act.put, List.setIfInBounds_toArray, List.set_cons_zero, List.set_cons_succ]
  refine wpAnyH_take (i := 5) (oi := ?_) (v := ?_) ?_ (by kernel_rfl) (by kernel_rfl) (by kernel_rfl) ?_ ?_ (by assumption) ?_; rotate_left 2; (focus (simp only [List.getElem?_toArray, List.getElem?_cons_succ, List.getElem?_cons_zero]; rfl)); (focus (exact fun _ _ _ h => h)); first | (focus (refine Or.inl ⟨by rfl, ?_⟩; intro w hSw; (try dsimp only at hSw); (try dsimp only [Array.getD]); go_simp; (try with_reducible rfl))) | (focus (refine Or.inr ⟨by rfl, ?_⟩; rfl)) | fail "op 5"
  try simp only [Act.put, List.setIfInBounds_toArray, List.set_cons_zero, List.set_cons_succ]
  refine wpAnyH_take (i := 6) (oi := ?_) (v := ?_) ?_ (by kernel_rfl) (by kernel_rfl) (by kernel_rfl) ?_ ?_ (by assumption) ?_; rotate_left 2; (focus (simp only [List.getElem?_toArray, List.getElem?_cons_succ, List.getElem?_cons_zero]; rfl)); (focus (exact fun _ _ _ h => h)); first | (focus (refine Or.inl ⟨by rfl, ?_⟩; intro w hSw; (try dsimp only at hSw); obtain ⟨x0, x1, x2, x3, x4, x5⟩ := pt_cells (p := x) (hSw.gr.blk BX.out); obtain ⟨y0, y1, y2, y3, y4, y5⟩ := pt_cells (p := y) (hSw.gr.blk BY.out); (try dsimp only [Array.getD]); go_simp; (try with_reducible rfl))) | (focus (refine Or.inr ⟨by rfl, ?_⟩; rfl)) | fail "op 6"
  try simp only [Act.put, List.setIfInBounds_toArray, List.set_cons_zero, List.set_cons_succ]
  refine wpAnyH_take (i := 7) (oi := ?_) (v := ?_) ?_ (by kernel_rfl) (by kernel_rfl) (by kernel_rfl) ?_ ?_ (by assumption) ?_; rotate_left 2; (focus (simp only [List.getElem?_toArray, List.getElem?_cons_succ, List.getElem?_cons_zero]; rfl)); (focus (exact fun _ _ _ h => h)); first | (focus (refine Or.inl ⟨by rfl, ?_⟩; intro w hSw; (try dsimp only at hSw); (try dsimp only [Array.getD]); go_simp; (try with_reducible rfl))) | (focus (refine Or.inr ⟨by rfl, ?_⟩; rfl)) | fail "op 7"
  try simp only [Act.put, List.setIfInBounds_toArray, List.set_cons_zero, List.set_cons_succ]
  refine wpAnyH_take (i := 8) (oi := ?_) (v := ?_) ?_ (by kernel_rfl) (by kernel_rfl) (by kernel_rfl) ?_ ?_ (by assumption) ?_; rotate_left 2; (focus (simp only [List.getElem?_toArray, List.getElem?_cons_succ, List.getElem?_cons_zero]; rfl)); (focus (exact fun _ _ _ h => h)); first | (focus (refine Or.inl ⟨by rfl, ?_⟩; intro w hSw; (try dsimp only at hSw); obtain ⟨x0, x1, x2, x3, x4, x5⟩ := pt_cells (p := x) (hSw.gr.blk BX.out); obtain ⟨y0, y1, y2, y3, y4, y5⟩ := pt_cells (p := y) (hSw.gr.blk BY.out); (try dsimp only [Array.getD]); go_simp; (try with_reducible rfl))) | (focus (refine Or.inr ⟨by rfl, ?_⟩; rfl)) | fail "op 8"
  try simp only [Act.put, List.setIfInBounds_toArray, List.set_cons_zero, List.set_cons_succ]
  refine wpAnyH_take (i := 10) (oi := ?_) (v := ?_) ?_ (by kernel_rfl) (by kernel_rfl) (by kernel_rfl) ?_ ?_ (by assumption) ?_; rotate_left 2; (focus (simp only [List.getElem?_toArray, List.getElem?_cons_succ, List.getElem?_cons_zero]; rfl)); (focus (exact fun _ _ _ h => h)); first | (focus (refine Or.inl ⟨by rfl, ?_⟩; intro w hSw; (try dsimp only at hSw); (try dsimp only [Array.getD]); go_simp; (try with_reducible rfl))) | (focus (refine Or.inr ⟨by rfl, ?_⟩; rfl)) | fail "op 10"
  try simp only [Act.put, List.setIfInBounds_toArray, List.set_cons_zero, List.set_cons_succ]
  refine wpAnyH_take (i := 11) (oi := ?_) (v := ?_) ?_ (by kernel_rfl) (by kernel_rfl) (by kernel_rfl) ?_ ?_ (by assumption) ?_; rotate_left 2; (focus (simp only [List.getElem?_toArray, List.getElem?_cons_succ, List.getElem?_cons_zero]; rfl)); (focus (exact fun _ _ _ h => h)); first | (focus (refine Or.inl ⟨by rfl, ?_⟩; intro w hSw; (try dsimp only at hSw); refine (exec_load_mid 29 (.tmp 15) (by rfl) A 3 (by rfl) _ _ (pt_stamp (p := x) (hSw.gr.blk BX.out)) Try.underlying29 rfl info_st).trans ?_; with_reducible rfl)) | (focus (refine Or.inr ⟨by rfl, ?_⟩; rfl)) | fail "op 11"
  try simp only [Act.put, List.setIfInBounds_toArray, List.set_cons_zero, List.set_cons_succ]
  refine wpAnyH_take (i := 12) (oi := ?_) (v := ?_) ?_ (by kernel_rfl) (by kernel_rfl) (by kernel_rfl) ?_ ?_ (by assumption) ?_; rotate_left 2; (focus (simp only [List.getElem?_toArray, List.getElem?_cons_succ, List.getElem?_cons_zero]; rfl)); (focus (exact fun _ _ _ h => h)); first | (focus (refine Or.inl ⟨by rfl, ?_⟩; intro w hSw; (try dsimp only at hSw); (try dsimp only [Array.getD]); go_simp; (try with_reducible rfl))) | (focus (refine Or.inr ⟨by rfl, ?_⟩; rfl)) | fail "op 12"
  try simp only [Act.put, List.setIfInBounds_toArray, List.set_cons_zero, List.set_cons_succ]
  refine wpAnyH_take (i := 13) (oi := ?_) (v := ?_) ?_ (by kernel_rfl) (by kernel_rfl) (by kernel_rfl) ?_ ?_ (by assumption) ?_; rotate_left 2; (focus (simp only [List.getElem?_toArray, List.getElem?_cons_succ, List.getElem?_cons_zero]; rfl)); (focus (exact fun _ _ _ h => h)); first | (focus (refine Or.inl ⟨by rfl, ?_⟩; intro w hSw; (try dsimp only at hSw); refine (exec_load_mid 29 (.tmp 17) (by rfl) A' 3 (by rfl) _ _ (pt_stamp (p := y) (hSw.gr.blk BY.out)) Try.underlying29 rfl info_st).trans ?_; with_reducible rfl)) | (focus (refine Or.inr ⟨by rfl, ?_⟩; rfl)) | fail "op 13"
  try simp only [Act.put, List.setIfInBounds_toArray, List.set_cons_zero, List.set_cons_succ]
  refine wpAnyH_take (i := 15) (oi := ?_) (v := ?_) ?_ (by kernel_rfl) (by kernel_rfl) (by kernel_rfl) ?_ ?_ (by assumption) ?_; rotate_left 2; (focus (simp only [List.getElem?_toArray, List.getElem?_cons_succ, List.getElem?_cons_zero]; rfl)); (focus (exact fun _ _ _ h => h)); first | (focus (refine Or.inl ⟨by rfl, ?_⟩; intro w hSw; (try dsimp only at hSw); (try dsimp only [Array.getD]); go_simp; (try with_reducible rfl))) | (focus (refine Or.inr ⟨by rfl, ?_⟩; rfl)) | fail "op 15"
  try simp only [Act.put, List.setIfInBounds_toArray, List.set_cons_zero, List.set_cons_succ]
  refine wpAnyH_take (i := 16) (oi := ?_) (v := ?_) ?_ (by kernel_rfl) (by kernel_rfl) (by kernel_rfl) ?_ ?_ (by assumption) ?_; rotate_left 2; (focus (simp only [List.getElem?_toArray, List.getElem?_cons_succ, List.getElem?_cons_zero]; rfl)); (focus (exact fun _ _ _ h => h)); first | (focus (refine Or.inl ⟨by rfl, ?_⟩; intro w hSw; (try dsimp only at hSw); obtain ⟨x0, x1, x2, x3, x4, x5⟩ := pt_cells (p := x) (hSw.gr.blk BX.out); obtain ⟨y0, y1, y2, y3, y4, y5⟩ := pt_cells (p := y) (hSw.gr.blk BY.out); (try dsimp only [Array.getD]); go_simp; (try with_reducible rfl))) | (focus (refine Or.inr ⟨by rfl, ?_⟩; rfl)) | fail "op 16"
  try simp only [Act.put, List.setIfInBounds_toArray, List.set_cons_zero, List.set_cons_succ]
  refine wpAnyH_take (i := 17) (oi := ?_) (v := ?_) ?_ (by kernel_rfl) (by kernel_rfl) (by kernel_rfl) ?_ ?_ (by assumption) ?_; rotate_left 2; (focus (simp only [List.getElem?_toArray, List.getElem?_cons_succ, List.getElem?_cons_zero]; rfl)); (focus (exact fun _ _ _ h => h)); first | (focus (refine Or.inl ⟨by rfl, ?_⟩; intro w hSw; (try dsimp only at hSw); (try dsimp only [Array.getD]); go_simp; (try with_reducible rfl))) | (focus (refine Or.inr ⟨by rfl, ?_⟩; rfl)) | fail "op 17"
  try simp only [Act.put, List.setIfInBounds_toArray, List.set_cons_zero, List.set_cons_succ]
  refine wpAnyH_take (i := 18) (oi := ?_) (v := ?_) ?_ (by kernel_rfl) (by kernel_rfl) (by kernel_rfl) ?_ ?_ (by assumption) ?_; rotate_left 2; (focus (simp only [List.getElem?_toArray, List.getElem?_cons_succ, List.getElem?_cons_zero]; rfl)); (focus (exact fun _ _ _ h => h)); first | (focus (refine Or.inl ⟨by rfl, ?_⟩; intro w hSw; (try dsimp only at hSw); obtain ⟨x0, x1, x2, x3, x4, x5⟩ := pt_cells (p := x) (hSw.gr.blk BX.out); obtain ⟨y0, y1, y2, y3, y4, y5⟩ := pt_cells (p := y) (hSw.gr.blk BY.out); (try dsimp only [Array.getD]); go_simp; (try with_reducible rfl))) | (focus (refine Or.inr ⟨by rfl, ?_⟩; rfl)) | fail "op 18"
  try simp only [Act.put, List.setIfInBounds_toArray, List.set_cons_zero, List.set_cons_succ]
  refine wpAnyH_ready (rs := [4]) (by kernel_rfl) (by simp) ?_
  refine AllReadyH.cons (o := ?_) ?_ (fun K hK => ?_) AllReadyH.nil; rotate_left; (focus (simp only [List.getElem?_toArray, List.getElem?_cons_succ, List.getElem?_cons_zero]; rfl))
  go_simp
  go_at_call 49
  refine (cmpT_calls _ _ _).mono ?_
  rintro e w7 ⟨rfl, rfl⟩
  refine hK.out _ _ hHeld (fun hHeld => ?_)
  clear hK K
  try simp only [Act.put, List.setIfInBounds_toArray, List.set_cons_zero, List.set_cons_succ]
  refine wpAnyH_ready (rs := [9]) (by kernel_rfl) (by simp) ?_
  refine AllReadyH.cons (o := ?_) ?_ (fun K hK => ?_) AllReadyH.nil; rotate_left; (focus (simp only [List.getElem?_toArray, List.getElem?_cons_succ, List.getElem?_cons_zero]; rfl))
  go_simp
  go_at_call 50
  refine (cmpN_calls _ _ _).mono ?_
  rintro e w7 ⟨rfl, rfl⟩
  refine hK.out _ _ hHeld (fun hHeld => ?_)
  clear hK K
  try simp only [Act.put, List.setIfInBounds_toArray, List.set_cons_zero, List.set_cons_succ]
  refine wpAnyH_ready (rs := [14]) (by kernel_rfl) (by simp) ?_
  refine AllReadyH.cons (o := ?_) ?_ (fun K hK => ?_) AllReadyH.nil; rotate_left; (focus (simp only [List.getElem?_toArray, List.getElem?_cons_succ, List.getElem?_cons_zero]; rfl))
  go_simp
  go_at_call 51
  refine (HS.out _).mono ?_
  rintro e w7 ⟨rfl, hg7⟩
  refine hK.out _ _ (hHeld.tr hg7) (fun hHeld => ?_)
  clear hK K
  try simp only [Act.put, List.setIfInBounds_toArray, List.set_cons_zero, List.set_cons_succ]
  refine wpAnyH_ready (rs := [19]) (by kernel_rfl) (by simp) ?_
  refine AllReadyH.cons (o := ?_) ?_ (fun K hK => ?_) AllReadyH.nil; rotate_left; (focus (simp only [List.getElem?_toArray, List.getElem?_cons_succ, List.getElem?_cons_zero]; rfl))
  go_simp
  go_at_call 52
  refine (cmpL_calls _ _ _).mono ?_
  rintro e w8 ⟨rfl, rfl⟩
  refine hK.out _ _ hHeld (fun hHeld => ?_)
  clear hK K
  try simp only [Act.put, List.setIfInBounds_toArray, List.set_cons_zero, List.set_cons_succ]
  refine wpAnyH_ready (rs := [20]) (by kernel_rfl) (by simp) ?_
  refine AllReadyH.cons (o := ?_) ?_ (fun K hK => ?_) AllReadyH.nil; rotate_left; (focus (simp only [List.getElem?_toArray, List.getElem?_cons_succ, List.getElem?_cons_zero]; rfl))
  go_simp
  refine hK.out _ _ (Gw.al hHeld _) (fun hHeld => ?_)
  clear hK K
  try simp only [Act.put, List.setIfInBounds_toArray, List.set_cons_zero, List.set_cons_succ]
  refine wpAnyH_ready (rs := [21]) (by kernel_rfl) (by simp) ?_
  refine AllReadyH.cons (o := ?_) ?_ (fun K hK => ?_) AllReadyH.nil; rotate_left; (focus (simp only [List.getElem?_toArray, List.getElem?_cons_succ, List.getElem?_cons_zero]; rfl))
  go_simp
  go_at_call 48
  have hal := heap_alloc_new w7 (.cells #[.int .i64 (cmpS x.s y.s), .int .i64 (cmpI x.t y.t), .int .i64 z, .int .i64 (cmpI x.v y.v)] 3)
  refine (or_calls _ _ _ _ _ _ ((cell_of_row _ _ 0 _ _ _ hal).trans rfl) ((cell_of_row _ _ 1 _ _ _ hal).trans rfl) ((cell_of_row _ _ 2 _ _ _ hal).trans rfl) ((cell_of_row _ _ 3 _ _ _ hal).trans rfl)).mono ?_
  rintro e w9 ⟨rfl, rfl⟩
  refine hK.out _ _ hHeld (fun hHeld => ?_)
  clear hal
  clear hK K
  try simp only [Act.put, List.setIfInBounds_toArray, List.set_cons_zero, List.set_cons_succ]
  refine wpAnyH_take (i := 22) (oi := ?_) (v := ?_) ?_ (by kernel_rfl) (by kernel_rfl) (by kernel_rfl) ?_ ?_ (by assumption) ?_; rotate_left 2; (focus (simp only [List.getElem?_toArray, List.getElem?_cons_succ, List.getElem?_cons_zero]; rfl)); (focus (exact fun _ _ _ h => h)); first | (focus (refine Or.inl ⟨by rfl, ?_⟩; intro w hSw; (try dsimp only at hSw); (try dsimp only [Array.getD]); go_simp; (try with_reducible rfl))) | (focus (refine Or.inr ⟨by rfl, ?_⟩; rfl)) | fail "op 22"
  try simp only [Act.put, List.setIfInBounds_toArray, List.set_cons_zero, List.set_cons_succ]
  refine wpAnyH_done (by kernel_rfl) ?_ _
  go_wp2_with fail
  go_ret
  exact ⟨ret_i rfl Hr.out, HG.out.tr hHeld⟩
end Go.Proofs.Ytijgbfhjimlklaa

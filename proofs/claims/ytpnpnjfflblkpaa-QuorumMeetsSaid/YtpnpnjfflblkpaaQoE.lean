/- QuorumMeets: a write and a read beside each other, and beside eight lists of points in an array, each on a row of its own. -/
import Derived.Test.YtpnpnjfflblkpaaQoD
import Derived.Maps.AppendAt
namespace Go.Proofs.Ytpnpnjfflblkpaa
open Go.RowKit Go.Maps Go.Sort Go.Shelf

theorem rdRow.bt {w w' : World} {n : Nat} {v : Value} {size : Nat} {xs : List Value} (h : rdRow w size v n xs) {X : Nat → Prop} (hb : Bt X w w') (hv : ∀ a m c, v = .slice (some a) m c → 0 < n → ¬ X a.block) : rdRow w' size v n xs := by
  obtain ⟨h1, a, cap, rfl, hc, h2⟩ := h
  refine ⟨h1, a, cap, rfl, hc, fun hn => ?_⟩
  obtain ⟨b, o, rfl, h4⟩ := h2 hn
  exact ⟨b, o, rfl, fun j u hu => hb.cell (fun hx => hv _ _ _ rfl hn hx) (h4 j u hu)⟩
theorem own_map {w w' : World} {base e k n : Nat} {v : Value} {xs : List Value} (h : w.ownsRow base e k v n xs) {X : Nat → Prop} (hb : Bt X w w') (hX : ∀ b, X b → ∃ es c, w.heap[b]? = some (.map es c)) : w'.ownsRow base e k v n xs :=
  own_bt h hb fun j hj hx => by
    obtain ⟨es, c, hm⟩ := hX j hx
    rcases h.2 with ⟨rfl, _⟩ | ⟨g, cap, cur, rfl, _, hg, _⟩
    · cases hj
    · injection hj with hj
      simp only at hj
      rw [hj] at hg
      rw [hg] at hm
      cases hm
/-- A write: all that it reads lies ahead of A. -/
def WrF (w : World) (p b : Nat) (nd : Int) (N H : List Int) (A : Nat) : Prop := ∃ nv, WrAt w p nd nv N (some b) H ∧ p < A ∧ b < A ∧ ∀ a m c, nv = .slice (some a) m c → 0 < N.length → a.block < A
/-- A read: all that it reads lies ahead of A, but the answers, which lie outside X. -/
def RdF (w : World) (p b g : Nat) (nd : Int) (N H : List Int) (gl : Int → List Pt) (A : Nat) (X : Nat → Prop) : Prop :=
  ∃ nv gv, RdAt w p nd nv N (some b) (some g) H gv gl ∧ p < A ∧ b < A ∧ g < A ∧ (∀ a m c, nv = .slice (some a) m c → 0 < N.length → a.block < A) ∧ ∀ k a m c, gv k = .slice (some a) m c → 0 < (gl k).length → ¬ X a.block
section
variable {w0 w w' : World} {p b g A : Nat} {nd : Int} {N H : List Int} {gl : Int → List Pt} {X Y : Nat → Prop}
theorem WrF.gr (h : WrF w p b nd N H A) (hg : Gr w w') : WrF w' p b nd N H A := by
  obtain ⟨nv, h1, h2⟩ := h
  exact ⟨nv, h1.gr hg, h2⟩
theorem WrF.far (h : WrF w p b nd N H A) (hb : Bt Y w w') (hY : ∀ k, Y k → A ≤ k) : WrF w' p b nd N H A := by
  obtain ⟨nv, h1, h2, h3, h4⟩ := h
  have hp : ¬ Y p := fun z => by have := hY _ z; omega
  have hbb : ¬ Y b := fun z => by have := hY _ z; omega
  exact ⟨nv, ⟨hb.cell hp h1.c0, hb.cell hp h1.c1, hb.cell hp h1.c2, h1.row.bt hb (fun a m c e h0 z => by have := hY _ z; have := h4 a m c e h0; omega), h1.map.bt hb (fun k e => by injection e with e; rw [← e]; exact hbb), h1.sub, h1.some_, h1.nI⟩, h2, h3, h4⟩
theorem WrF.btm (h : WrF w p b nd N H A) (hb : Bt Y w w') (hY : ∀ k, Y k → ∃ es c, w.heap[k]? = some (.map es c)) (h1 : ¬ Y b) : WrF w' p b nd N H A := by
  obtain ⟨nv, hr, h2⟩ := h
  exact ⟨nv, hr.bt hb hY (fun k e => by injection e with e; rw [← e]; exact h1), h2⟩
theorem RdF.gr (h : RdF w p b g nd N H gl A X) (hg : Gr w w') : RdF w' p b g nd N H gl A X := by
  obtain ⟨nv, gv, h1, h2⟩ := h
  exact ⟨nv, gv, h1.gr hg, h2⟩
theorem RdF.mono (h : RdF w p b g nd N H gl A X) (hX : ∀ k, Y k → X k) : RdF w p b g nd N H gl A Y := by
  obtain ⟨nv, gv, h1, h2, h3, h4, h5, h6⟩ := h
  exact ⟨nv, gv, h1, h2, h3, h4, h5, fun k a m c e h0 z => h6 k a m c e h0 (hX _ z)⟩
theorem RdF.far (h : RdF w p b g nd N H gl A X) (hb : Bt Y w w') (hY : ∀ k, Y k → A ≤ k ∧ X k) : RdF w' p b g nd N H gl A X := by
  obtain ⟨nv, gv, h1, h2, h3, h4, h5, h6⟩ := h
  have hn : ∀ k, k < A → ¬ Y k := fun k hk z => by have := (hY _ z).1; omega
  have w1 := h1.wr
  refine ⟨nv, gv, ⟨⟨hb.cell (hn _ h2) w1.c0, hb.cell (hn _ h2) w1.c1, hb.cell (hn _ h2) w1.c2, w1.row.bt hb (fun a m c e h0 => hn _ (h5 a m c e h0)), w1.map.bt hb (fun k e => by injection e with e; rw [← e]; exact hn _ h3), w1.sub, w1.some_, w1.nI⟩,
    ⟨hb.cell (hn _ h2) h1.gt.c3, h1.gt.got.bt hb (fun k e => by injection e with e; rw [← e]; exact hn _ h4), fun k => (h1.gt.rows k).bt hb (fun a m c e h0 z => h6 k a m c e h0 (hY _ z).2), h1.gt.nil_, h1.gt.some_⟩, h1.ne⟩, h2, h3, h4, h5, h6⟩
theorem RdF.btm (h : RdF w p b g nd N H gl A X) (hb : Bt Y w w') (hY : ∀ k, Y k → ∃ es c, w.heap[k]? = some (.map es c)) (h1 : ¬ Y b) (h2 : ¬ Y g) : RdF w' p b g nd N H gl A X := by
  obtain ⟨nv, gv, hr, h3⟩ := h
  exact ⟨nv, gv, ⟨hr.wr.bt hb hY (fun k e => by injection e with e; rw [← e]; exact h1), hr.gt.bt hb hY (fun k e => by injection e with e; rw [← e]; exact h2), hr.ne⟩, h3⟩
theorem WrF.ack (h : WrF w p b nd N H A) (hN : N.length ≤ 1000) (hH : H.length ≤ 1000) (n : Int) (hn : I64 n) :
    Calls Try.prog 14 #[.pointer (some ⟨p, 0, none⟩), .int .i64 n] w fun e w' => e = .returned (.bool (decide (ackB N H n))) ∧ WrF w' p b nd N (ackH N H n) A ∧ Bt (fun k => b = k) w w' ∧ ∃ es c, w.heap[b]? = some (.map es c) := by
  obtain ⟨nv, h1, h2⟩ := h
  refine (ack_calls w p nd nv N (some b) H h1 hN hH n hn).mono ?_
  rintro e w' ⟨rfl, ha, hb⟩
  exact ⟨rfl, ⟨nv, ha, h2⟩, hb.mono fun k _ e => by injection e, h1.map.map⟩
theorem WrF.done (h : WrF w p b nd N H A) : Calls Try.prog 13 #[.pointer (some ⟨p, 0, none⟩)] w fun e w' => e = .returned (.bool (decide (0 < nd ∧ nd ≤ (H.length : Int)))) ∧ Gr w w' := by
  obtain ⟨nv, h1, _⟩ := h
  exact done_calls w p nd nv N (some b) H h1
theorem RdF.done (h : RdF w p b g nd N H gl A X) : Calls Try.prog 16 #[.pointer (some ⟨p, 0, none⟩)] w fun e w' => e = .returned (.bool (decide (0 < nd ∧ nd ≤ (H.length : Int)))) ∧ Gr w w' := by
  obtain ⟨nv, gv, h1, _⟩ := h
  exact rdone_calls w p nd nv N (some b) H h1.wr
theorem RdF.merged (h : RdF w p b g nd N H gl A X) (hN : N.length ≤ 10) (hl : ∀ k, (gl k).length ≤ 10) :
    Calls Try.prog 18 #[.pointer (some ⟨p, 0, none⟩)] w fun e w' => ∃ v', e = .returned v' ∧ w'.ownsRow w.heap.size 26 6 v' (sortP ((N.map gl).flatten)).length (encP (sortP ((N.map gl).flatten))) ∧ Gr w w' := by
  obtain ⟨nv, gv, h1, _⟩ := h
  exact merged_calls w p nd nv N _ _ H gv gl h1 (by omega) (Nat.le_trans (flat_len10 hl N) (by omega))
theorem RdF.repair (h : RdF w p b g nd N H gl A X) (hN : N.length ≤ 10) (hl : ∀ k, (gl k).length ≤ 10) (x : Int) (hx : I64 x) :
    Calls Try.prog 20 #[.pointer (some ⟨p, 0, none⟩), .int .i64 x] w fun e w' => ∃ v', e = .returned v' ∧ w'.ownsRow w.heap.size 26 6 v' (repL N gl x).length (encP (repL N gl x)) ∧ Gr w w' := by
  obtain ⟨nv, gv, h1, _⟩ := h
  exact repair_calls w p nd nv N _ _ H gv gl h1 (by omega) (Nat.le_trans (flat_len10 hl N) (by omega)) (fun k => Nat.le_trans (hl k) (by decide)) x hx
theorem RdF.answer (h : RdF w p b g nd N H gl A X) (hX : ∀ k, X k → k < w.heap.size) (hN : N.length ≤ 1000) (hH : H.length ≤ 1000) (n : Int) (hn : I64 n) (v : Value) (l : List Pt) (hv : rdRow w 6 v l.length (encP l)) (hl : l.length ≤ 100000) :
    Calls Try.prog 17 #[.pointer (some ⟨p, 0, none⟩), .int .i64 n, v] w fun e w' => e = .returned (.bool (decide (ackB N H n))) ∧ RdF w' p b g nd N (ackH N H n) (upL gl N H n l) A X ∧ Bt (fun k => b = k ∨ g = k) w w' ∧ (∃ es c, w.heap[b]? = some (.map es c)) ∧ ∃ es c, w.heap[g]? = some (.map es c) := by
  obtain ⟨nv, gv, h1, h2, h3, h4, h5, h6⟩ := h
  refine (answer2_calls w p nd nv N (some b) (some g) H gv gl h1 hN hH n hn v l hv hl).mono ?_
  rintro e w' ⟨rfl, hb, ha⟩
  refine ⟨rfl, ?_, hb.mono fun k _ e => e.imp (fun e => by injection e) (fun e => by injection e), h1.wr.map.map, h1.gt.got.map⟩
  unfold ackH
  by_cases hk : ackB N H n
  · rw [if_pos hk] at ha ⊢
    rw [upL_yes hk]
    obtain ⟨v', hf, ha⟩ := ha
    refine ⟨nv, _, ha, h2, h3, h4, h5, fun k a m c e h0 z => ?_⟩
    by_cases ek : k = n
    · simp only [if_pos ek] at e h0
      have := hf a m c e h0
      have := hX _ z
      omega
    · simp only [if_neg ek] at e h0
      exact h6 k a m c e h0 z
  · rw [if_neg hk] at ha ⊢
    rw [upL_no hk]
    exact ⟨nv, gv, ha, h2, h3, h4, h5, h6⟩
end
theorem upL_glO {G : Nat → List Pt} {N H : List Int} {m : Nat} : upL (glO G H) N H (m : Int) (G m) = glO G (ackH N H m) := by
  unfold ackH
  by_cases hk : ackB N H m
  · rw [if_pos hk, upL_yes hk]
    funext k
    unfold glO
    by_cases e : k = m
    · subst e
      rw [if_pos rfl, if_pos (by simp)]; rfl
    · rw [if_neg e]
      have : (k ∈ H ++ [(m : Int)]) ↔ k ∈ H := by simp [e]
      simp only [this]
  · rw [if_neg hk, upL_no hk]
/-- Lists in an array: of each place its list, on a row of its own. -/
structure Hd8 (w : World) (A N : Nat) (g : Nat → List Pt) (f : Nat → Value) : Prop where
  arr : ∀ m, m < 8 → w.cell? ⟨A, m, none⟩ = some (f m) ∧ w.frozen? ⟨A, m, none⟩ = false
  row : ∀ m, m < 8 → w.ownsRow N 26 6 (f m) (g m).length (encP (g m))
  sep : ∀ m n k, m < 8 → n < 8 → m ≠ n → (f m).ownBlock = some k → (f n).ownBlock ≠ some k
  ab : A < N
  nw : N ≤ w.heap.size
section
variable {w w' : World} {A N : Nat} {g : Nat → List Pt} {f : Nat → Value}
theorem Hd8.gr (h : Hd8 w A N g f) (hg : Gr w w') : Hd8 w' A N g f :=
  ⟨fun m hm => ⟨keepc hg (h.arr m hm).1, keepf hg (h.arr m hm).1 (h.arr m hm).2⟩, fun m hm => own_gr (h.row m hm) hg, h.sep, h.ab, Nat.le_trans h.nw hg.size⟩
theorem Hd8.btm (h : Hd8 w A N g f) {X : Nat → Prop} (hb : Bt X w w') (hX : ∀ b, X b → ∃ es c, w.heap[b]? = some (.map es c)) : Hd8 w' A N g f :=
  have hn : ¬ X A := fun hx => map_ne_row (hX _ hx) (h.arr 0 (by decide)).1 rfl
  ⟨fun m hm => ⟨hb.cell hn (h.arr m hm).1, frozen_bt hb hn (h.arr m hm).1 (h.arr m hm).2⟩, fun m hm => own_map (h.row m hm) hb hX, h.sep, h.ab, Nat.le_trans h.nw hb.size⟩
theorem hd8_new {cs : Array Value} {T : TypeId} (hb : w.heap[A]? = some (.cells cs T (0, 0))) (hc : ∀ m, m < 8 → cs[m]? = some (.slice none 0 0)) (hN : A < N) (hw : N ≤ w.heap.size) : Hd8 w A N (fun _ => []) (fun _ => .slice none 0 0) :=
  ⟨fun m hm => ⟨(cell_of_row w A m _ _ _ hb).trans (hc m hm), frozen_of_row w A m _ _ hb⟩, fun _ _ => World.ownsRow_nil _ _ _ _, fun _ _ _ _ _ _ h => (by cases h), hN, hw⟩
theorem Hd8.congr {g' : Nat → List Pt} (h : Hd8 w A N g f) (hg : g' = g) : Hd8 w A N g' f := hg ▸ h
theorem Hd8.own_lt (h : Hd8 w A N g f) {m k : Nat} (hm : m < 8) (hk : (f m).ownBlock = some k) : N ≤ k ∧ k < w.heap.size := (h.row m hm).lt k hk
/-- A new list is put in the place of the elder one. -/
theorem Hd8.put (h : Hd8 w A N g f) {m : Nat} (hm : m < 8) {v : Value} {L : List Pt} (hv : w.ownsRow N 26 6 v L.length (encP L)) (hn : ∀ j k, j < 8 → j ≠ m → (f j).ownBlock = some k → v.ownBlock ≠ some k) :
    Hd8 (w.setCell ⟨A, m, none⟩ v) A N (fun k => if k = m then L else g k) (fun k => if k = m then v else f k) := by
  have hb := bt_set w A m v
  have hA : ∀ {u : Value} {l : List Pt}, w.ownsRow N 26 6 u l.length (encP l) → ∀ k, u.ownBlock = some k → ¬ k = A := fun ho k hk z => by
    have := (ho.lt k hk).1
    have := h.ab
    omega
  refine ⟨fun k hk => ⟨?_, by rw [World.frozen?_setCell]; exact (h.arr k hk).2⟩, fun k hk => ?_, fun a c k ha hc hne hka => ?_, h.ab, Nat.le_trans h.nw hb.size⟩
  · by_cases e : k = m
    · subst e
      rw [World.cell?_setCell_same _ _ _ (h.arr k hk).1]; simp
    · rw [World.cell?_setCell_other _ ⟨A, m, none⟩ ⟨A, k, none⟩ _ (off_ne (by omega)), (h.arr k hk).1]; simp [e]
  · by_cases e : k = m
    · subst e
      simp only [if_true]
      exact own_bt hv hb (hA hv)
    · simp only [if_neg e]
      exact own_bt (h.row k hk) hb (hA (h.row k hk))
  · by_cases e1 : a = m
    · have e2 : c ≠ m := fun z => hne (e1.trans z.symm)
      simp only [if_pos e1, if_neg e2] at hka ⊢
      exact fun z => hn c k hc e2 z hka
    · simp only [if_neg e1] at hka
      by_cases e2 : c = m
      · simp only [if_pos e2]
        exact hn a k ha e1 hka
      · simp only [if_neg e2]
        exact h.sep a c k ha hc hne hka
/-- One list's own row is written: the others stand. -/
theorem Hd8.wrote (h : Hd8 w A N g f) {m : Nat} (hm : m < 8) (hb : Bt (fun k => (f m).ownBlock = some k) w w') :
    (∀ j, j < 8 → w'.cell? ⟨A, j, none⟩ = some (f j) ∧ w'.frozen? ⟨A, j, none⟩ = false) ∧ ∀ j, j < 8 → j ≠ m → w'.ownsRow N 26 6 (f j) (g j).length (encP (g j)) := by
  have hn : ¬ (f m).ownBlock = some A := fun z => by have := (h.own_lt hm z).1; have := h.ab; omega
  exact ⟨fun j hj => ⟨hb.cell hn (h.arr j hj).1, frozen_bt hb hn (h.arr j hj).1 (h.arr j hj).2⟩, fun j hj hjm => own_bt (h.row j hj) hb (fun k hk => h.sep j m k hj hm hjm hk)⟩
/-- The same, with the place's own row given anew. -/
theorem Hd8.back (h : Hd8 w A N g f) {m : Nat} (hm : m < 8) (hb : Bt (fun k => (f m).ownBlock = some k) w w') {w2 : World} (hg : Gr w' w2) {v : Value} {L : List Pt} (hv : w2.ownsRow w.heap.size 26 6 v L.length (encP L)) :
    Hd8 (w2.setCell ⟨A, m, none⟩ v) A N (fun k => if k = m then L else g k) (fun k => if k = m then v else f k) := by
  obtain ⟨h1, h2⟩ := h.wrote hm hb
  have hsz := Nat.le_trans hb.size hg.size
  have hold : ∀ j k, j < 8 → (f j).ownBlock = some k → k < w.heap.size := fun j k hj hk => (h.own_lt hj hk).2
  have hnew : ∀ k, v.ownBlock = some k → w.heap.size ≤ k := fun k hk => (hv.lt k hk).1
  have hb2 := bt_set w2 A m v
  have hA : ∀ k, N ≤ k → ¬ k = A := fun k hk z => by have := h.ab; omega
  have hvN := own_mono hv h.nw
  refine ⟨fun k hk => ⟨?_, by rw [World.frozen?_setCell]; exact keepf hg (h1 k hk).1 (h1 k hk).2⟩, fun k hk => ?_, fun a c k ha hc hne hka => ?_, h.ab, Nat.le_trans (Nat.le_trans h.nw hsz) hb2.size⟩
  · have hc := keepc hg (h1 k hk).1
    by_cases e : k = m
    · subst e
      rw [World.cell?_setCell_same _ _ _ hc]; simp
    · rw [World.cell?_setCell_other _ ⟨A, m, none⟩ ⟨A, k, none⟩ _ (off_ne (by omega)), hc]; simp [e]
  · by_cases e : k = m
    · subst e
      simp only [if_true]
      exact own_bt hvN hb2 (fun j hj => hA j (hvN.lt j hj).1)
    · simp only [if_neg e]
      exact own_bt (own_gr (h2 k hk e) hg) hb2 (fun j hj => hA j (h.own_lt hk hj).1)
  · by_cases e1 : a = m
    · have e2 : c ≠ m := fun z => hne (e1.trans z.symm)
      simp only [if_pos e1, if_neg e2] at hka ⊢
      intro z
      have := hnew k hka; have := hold c k hc z
      omega
    · simp only [if_neg e1] at hka
      by_cases e2 : c = m
      · simp only [if_pos e2]
        intro z
        have := hnew k z; have := hold a k ha hka
        omega
      · simp only [if_neg e2]
        exact h.sep a c k ha hc hne hka
end
set_option maxRecDepth 100000 in
/-- append(x, y...) in a region that is drawn. -/
theorem wp_join_pt {o : Oper} {a : Act} {w : World} {K : Act → World → Prop} {Q : Exit → Act → World → Prop} (s x : Operand)
    (ho : o.op = .call { callee := .builtin .append, args := #[s, x], argTypes := #[37, 37] }) (base : Nat) (v : Value) (L : List Pt) (hs : a.eval s = v) (hown : w.ownsRow base 26 6 v L.length (encP L))
    (R : List Pt) (xv : Value) (hx : a.eval x = xv) (hR : rdRow w 6 xv R.length (encP R)) (hn : L.length ≤ 1000) (hRl : R.length ≤ 1000) (hbase : base ≤ w.heap.size)
    (h : ∀ v' w', w'.ownsRow base 26 6 v' (L ++ R).length (encP (L ++ R)) → w.grownBy w' v.ownBlock → K (a.put o.dst v') w') : o.wp Try.prog a w K Q := by
  obtain ⟨i0, hi, hz0, hz1, hz2⟩ := info_parts infoPt
  obtain ⟨hRx, ad, c, rfl, hc, hcells⟩ := hR
  cases ad with
  | none =>
    have hR0 : R.length = 0 := by
      rcases Nat.eq_zero_or_pos R.length with h0 | h0
      · exact h0
      · obtain ⟨b, o, e1, _⟩ := hcells h0; cases e1
    obtain rfl : R = [] := List.eq_nil_of_length_eq_zero hR0
    have hr := run_append_none (P := Try.prog) (w := w) (ty := o.type) base 37 26 i0 6 Try.underlying37 hi v _ c _ hown
    unfold Oper.wp execOp
    simp only [ho, resolve, invoke, builtin, Sem.run_bind, Sem.run_pure, Result.andThen_ok, List.map_toArray, List.map_cons, List.map_nil, hs, hx, List.length_nil, hr]
    exact h _ _ (by rw [List.append_nil]; exact hown) ⟨rfl, rfl, rfl, Nat.le_refl _, fun _ _ _ => rfl⟩
  | some ad =>
    obtain ⟨v', w', hr, h2, h3, h4, h5⟩ := run_append_own_at (P := Try.prog) w base 37 o.type 26 i0 _ 6 56 Try.underlying37 hi hz0 hz1 hz2 rfl (by decide) v L.length (encP L) hown ad R.length c (encP R) (by rw [encP_len]) (fun j u hu => by
        have h0 : 0 < R.length := by
          rcases Nat.eq_zero_or_pos R.length with h0 | h0
          · rw [List.eq_nil_of_length_eq_zero h0] at hu; cases hu
          · exact h0
        obtain ⟨b, o, e1, h3⟩ := hcells h0
        injection e1 with e1
        subst e1
        rw [Addr.add_mid]
        exact h3 j u hu) (fun u hu => by obtain ⟨y, _, hy⟩ := List.mem_flatMap.1 hu; exact pt_one6 y u hy) (by unfold maxLen; omega) (by omega) hbase
    unfold Oper.wp execOp
    simp only [ho, resolve, invoke, builtin, Sem.run_bind, Sem.run_pure, Result.andThen_ok, List.map_toArray, List.map_cons, List.map_nil, hs, hx, hr]
    exact h _ _ (own_cast h2 (by simp) (by simp [encP])) h3
end Go.Proofs.Ytpnpnjfflblkpaa

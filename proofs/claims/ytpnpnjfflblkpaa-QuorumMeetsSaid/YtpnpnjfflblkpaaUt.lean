/- Small words shared by the walks of this seat: what a walk's end wants, what stays of the world. No program in sight. -/
import Derived.WalkKit
import Derived.WalkSpells
import Derived.Deep.MidRow
import Derived.Deep.Draws
import Derived.Lib.Hide
namespace Go.Proofs.Ytpnpnjfflblkpaa
open Go.RowKit

theorem ret_i {v : Value} {k : IntKind} {a b : Int} (hv : v = .int k a) (h : a = b) : Ending.returned v = .returned (.int k b) := by rw [hv, h]
theorem ret_b {v : Value} {a b : Bool} (hv : v = .bool a) (h : a = b) : Ending.returned v = .returned (.bool b) := by rw [hv, h]
/-- All that was there when the call began is as it was. -/
abbrev Gr (w w' : World) : Prop := Below w.heap.size w w'
theorem Gr.rfl' {w : World} : Gr w w := Below.refl _ _
theorem Gr.tr {a b c : World} (h : Gr a b) (k : Gr b c) : Gr a c := h.trans (k.mono h.size)
theorem Gr.al {a b : World} (h : Gr a b) (o : Obj) : Gr a (b.alloc o) := Below.alloc h h.size o
theorem Gr.dr {a b : World} (h : Gr a b) : Gr a b.drew := Below.drew h
theorem Gr.drN {a b : World} (h : Gr a b) {n : Nat} : Gr a (b.drewN n) := ⟨h.os, h.tape, h.output, h.size, h.block⟩
theorem Gr.sc {a b : World} (h : Gr a b) {p : Addr} (hp : a.heap.size ≤ p.block) (u : Value) : Gr a (b.setCell p u) := Below.setCell h hp u
theorem keepc {W w1 : World} (hb : Gr W w1) {p : Addr} {v : Value} (h : W.cell? p = some v) : w1.cell? p = some v := (hb.cell (World.block_lt_of_cell? W p h)).trans h
theorem keept {W w1 : World} (hb : Gr W w1) {b o n : Nat} (h : W.there b o n) : w1.there b o n := fun j hj => by
  obtain ⟨h1, h2⟩ := h j hj
  obtain ⟨v, hv⟩ := Option.isSome_iff_exists.1 h1
  have hl := World.block_lt_of_cell? W _ hv
  exact ⟨by rw [hb.cell hl]; exact h1, by rw [hb.frozen hl]; exact h2⟩
theorem there_two {w : World} {b : Nat} (h0 : (w.cell? ⟨b, 0, none⟩).isSome = true) (h1 : (w.cell? ⟨b, 1, none⟩).isSome = true) (f0 : w.frozen? ⟨b, 0, none⟩ = false) (f1 : w.frozen? ⟨b, 1, none⟩ = false) : w.there b 0 2 := fun j hj => by
  match j, hj with
  | 0, _ => exact ⟨by simpa using h0, by simpa using f0⟩
  | 1, _ => exact ⟨by simpa using h1, by simpa using f1⟩
theorem keept_dr {w : World} {b o n : Nat} (h : w.there b o n) : w.drew.there b o n := fun j hj => h j hj
theorem keept_sc {w : World} {b o n : Nat} (h : w.there b o n) (p : Addr) (v : Value) : (w.setCell p v).there b o n := fun j hj => by
  obtain ⟨h1, h2⟩ := h j hj
  obtain ⟨u, hu⟩ := Option.isSome_iff_exists.1 h1
  refine ⟨?_, by rw [World.frozen?_setCell]; exact h2⟩
  obtain ⟨v', hv'⟩ := cell?_setCell_some (w := w) (p := p) (x := v) (q := ⟨b, o + j, none⟩) (v := u) hu
  rw [hv']; rfl
/-- A struct of two integers is stored where two cells may be written. -/
theorem store_two {P : Program} {t : TypeId} (hi : (P.info? t).map (·.size) = some 2) (w : World) (b : Nat) (x y : Value) (hx : x.oneCell' = true) (hy : y.oneCell' = true) (ht : w.there b 0 2) :
    (Instr.storeAt t (.pointer (some ⟨b, 0, none⟩)) (.agg #[x, y])).run P w = .ok () ((w.setCell ⟨b, 0, none⟩ x).setCell ⟨b, 1, none⟩ y) := by
  have := run_storeAt_mid (P := P) w b 0 t #[x, y] (by simpa using ht) (by simpa using hi) (by simp [hx, hy])
  simpa [World.setCells] using this
/-- What stands in a cell, under a name (so that 'the cell is there' is an equation). -/
def cv (w : World) (b o : Nat) : Value := (w.cell? ⟨b, o, none⟩).getD undef
theorem cv_of {w : World} {b o : Nat} (h : (w.cell? ⟨b, o, none⟩).isSome = true) : w.cell? ⟨b, o, none⟩ = some (cv w b o) := by
  obtain ⟨v, hv⟩ := Option.isSome_iff_exists.1 h
  simp [cv, hv]
theorem cv_dr {w : World} {b o : Nat} (h : w.cell? ⟨b, o, none⟩ = some (cv w b o)) : w.drew.cell? ⟨b, o, none⟩ = some (cv w.drew b o) := h
theorem cv_gr {W w1 : World} (hb : Gr W w1) {b o : Nat} (h : W.cell? ⟨b, o, none⟩ = some (cv W b o)) : w1.cell? ⟨b, o, none⟩ = some (cv w1 b o) := cv_of (by rw [keepc hb h]; rfl)
theorem cv_al {w : World} {b o : Nat} (x : Obj) (h : w.cell? ⟨b, o, none⟩ = some (cv w b o)) : (w.alloc x).cell? ⟨b, o, none⟩ = some (cv (w.alloc x) b o) := cv_gr (Gr.rfl'.al x) h
theorem cv_sc {w : World} {b o : Nat} (p : Addr) (v : Value) (h : w.cell? ⟨b, o, none⟩ = some (cv w b o)) : (w.setCell p v).cell? ⟨b, o, none⟩ = some (cv (w.setCell p v) b o) := by
  obtain ⟨v', hv'⟩ := cell?_setCell_some (w := w) (p := p) (x := v) (q := ⟨b, o, none⟩) (v := cv w b o) h
  exact cv_of (by rw [hv']; rfl)
theorem keepf {W w1 : World} (hb : Gr W w1) {p : Addr} {v : Value} (h : W.cell? p = some v) (hf : W.frozen? p = false) : w1.frozen? p = false := (hb.frozen (World.block_lt_of_cell? W p h)).trans hf
theorem keepf' {W w1 : World} (hb : Gr W w1) {b o : Nat} (h : W.cell? ⟨b, o, none⟩ = some (cv W b o)) (hf : W.frozen? ⟨b, o, none⟩ = false) : w1.frozen? ⟨b, o, none⟩ = false := keepf hb h hf
theorem cv_set {w : World} {b o : Nat} (v : Value) (h : w.cell? ⟨b, o, none⟩ = some (cv w b o)) : cv (w.setCell ⟨b, o, none⟩ v) b o = v := by
  unfold cv; rw [World.cell?_setCell_same _ _ _ h]; rfl
theorem cv_set_ne {w : World} {b o o' : Nat} (v : Value) (h : o' ≠ o) : cv (w.setCell ⟨b, o', none⟩ v) b o = cv w b o := by
  unfold cv; rw [World.cell?_setCell_other w ⟨b, o', none⟩ ⟨b, o, none⟩ v (by intro e; injection e with _ e2; exact h e2)]
theorem set2 {w : World} {b : Nat} (x y : Value) (h0 : w.cell? ⟨b, 0, none⟩ = some (cv w b 0)) (h1 : w.cell? ⟨b, 1, none⟩ = some (cv w b 1)) :
    ((w.setCell ⟨b, 0, none⟩ x).setCell ⟨b, 1, none⟩ y).cell? ⟨b, 0, none⟩ = some x ∧ ((w.setCell ⟨b, 0, none⟩ x).setCell ⟨b, 1, none⟩ y).cell? ⟨b, 1, none⟩ = some y := by
  constructor
  · rw [World.cell?_setCell_other _ ⟨b, 1, none⟩ ⟨b, 0, none⟩ y (by simp), World.cell?_setCell_same _ _ _ h0]
  · refine World.cell?_setCell_same _ _ _ (u := cv w b 1) ?_
    rw [World.cell?_setCell_other _ ⟨b, 0, none⟩ ⟨b, 1, none⟩ x (by simp), h1]
theorem bcell {W w1 : World} (hb : Gr W w1) : (∀ b o, b < W.heap.size → w1.cell? ⟨b, o, none⟩ = W.cell? ⟨b, o, none⟩) ∧ (∀ b o, b < W.heap.size → w1.frozen? ⟨b, o, none⟩ = W.frozen? ⟨b, o, none⟩) :=
  ⟨fun b o h => hb.cell (p := ⟨b, o, none⟩) h, fun b o h => hb.frozen (p := ⟨b, o, none⟩) h⟩

/-- max and min of two, as Go tells them. -/
def mx (a b : Int) : Int := if a < b then b else a
def mn (a b : Int) : Int := if b < a then b else a
theorem mx_eq (a b : Int) : mx a b = max a b := by unfold mx; omega
theorem mn_eq (a b : Int) : mn a b = min a b := by unfold mn; omega
theorem max2_mx (k k' : IntKind) (x y : Int) : Builtin.max2 (.int k x) (.int k' y) = pure (.int k (mx x y)) := by simp only [Builtin.max2, gt_iff_lt, mx]
theorem min2_mn (k k' : IntKind) (x y : Int) : Builtin.min2 (.int k x) (.int k' y) = pure (.int k (mn x y)) := by simp only [Builtin.min2, mn]
theorem max_two' (ats : Array TypeId) (ty : TypeId) (a b : Value) : Builtin.max_ ats ty #[a, b] = (Builtin.max2 a b >>= fun s => pure s) := by simp only [Builtin.max_, List.foldlM_cons, List.foldlM_nil]
theorem min_two' (ats : Array TypeId) (ty : TypeId) (a b : Value) : Builtin.min_ ats ty #[a, b] = (Builtin.min2 a b >>= fun s => pure s) := by simp only [Builtin.min_, List.foldlM_cons, List.foldlM_nil]

/-- A slice value that reads as the cells xs: n elements of 'size' cells each (whoever owns them). -/
def rdRow (w : World) (size : Nat) (v : Value) (n : Nat) (xs : List Value) : Prop :=
  xs.length = n * size ∧ ∃ a cap, v = .slice a n cap ∧ n ≤ cap ∧ (0 < n → ∃ b o, a = some ⟨b, o, none⟩ ∧ ∀ j u, xs[j]? = some u → w.cell? ⟨b, o + j, none⟩ = some u)
theorem rdRow.gr {w w1 : World} {size n : Nat} {v : Value} {xs : List Value} (h : rdRow w size v n xs) (hg : Gr w w1) : rdRow w1 size v n xs := by
  obtain ⟨h1, a, cap, rfl, hc, h2⟩ := h
  refine ⟨h1, a, cap, rfl, hc, fun hn => ?_⟩
  obtain ⟨b, o, rfl, h3⟩ := h2 hn
  exact ⟨b, o, rfl, fun j u hu => keepc hg (h3 j u hu)⟩
theorem rdRow_of_own {w : World} {base e size n : Nat} {v : Value} {xs : List Value} (h : w.ownsRow base e size v n xs) : rdRow w size v n xs := by
  refine ⟨h.1, ?_⟩
  rcases h.2 with ⟨rfl, rfl⟩ | ⟨g, cap, cur, rfl, hb, hg, hn, hm, hs, ht⟩
  · exact ⟨none, 0, rfl, Nat.le_refl _, fun h => absurd h (by omega)⟩
  · refine ⟨some ⟨g, 0, none⟩, cap, rfl, hn, fun _ => ⟨g, 0, rfl, fun j u hu => ?_⟩⟩
    have := h.cells (g := g) rfl j u hu
    rwa [Addr.add_mid] at this
theorem own_drN {w : World} {m base e size n : Nat} {v : Value} {xs : List Value} (h : w.ownsRow base e size v n xs) : (w.drewN m).ownsRow base e size v n xs := h
theorem own_cast {w : World} {base e size n n' : Nat} {v : Value} {xs xs' : List Value} (h : w.ownsRow base e size v n xs) (hn : n = n') (hx : xs = xs') : w.ownsRow base e size v n' xs' := by subst hn; subst hx; exact h
theorem own_gr {w w1 : World} {base e size n : Nat} {v : Value} {xs : List Value} (h : w.ownsRow base e size v n xs) (hg : Gr w w1) : w1.ownsRow base e size v n xs :=
  h.kept (row := none) ⟨hg.os, hg.tape, hg.output, hg.size, fun k hk _ => hg.block k hk⟩ (by cases hv : v.ownBlock <;> simp)
theorem own_mono {w : World} {base base' e size n : Nat} {v : Value} {xs : List Value} (h : w.ownsRow base e size v n xs) (hb : base' ≤ base) : w.ownsRow base' e size v n xs := by
  refine ⟨h.1, ?_⟩
  rcases h.2 with h2 | ⟨g, cap, cur, hv, hg, r⟩
  · exact .inl h2
  · exact .inr ⟨g, cap, cur, hv, Nat.le_trans hb hg, r⟩
/-- Behind an append to a row of the call's own (from block w0.heap.size on). -/
theorem gr_grown {w0 w w1 : World} {base e size n : Nat} {v : Value} {xs : List Value} (h : Gr w0 w) (ho : w.ownsRow base e size v n xs) (hg : w.grownBy w1 v.ownBlock) (hb : w0.heap.size ≤ base) : Gr w0 w1 :=
  h.grown hg h.size fun k hk => Nat.le_trans hb (ho.lt k hk).1
theorem cell_grown {w w1 : World} {base e size n : Nat} {v : Value} {xs : List Value} (_ : w.ownsRow base e size v n xs) (hg : w.grownBy w1 v.ownBlock) {p : Addr} {x : Value} (hc : w.cell? p = some x) (hne : ∀ k, v.ownBlock = some k → k ≠ p.block) : w1.cell? p = some x :=
  hg.cell hc fun e => hne _ e.symm rfl
theorem cell_grown' {w w1 : World} {row : Option Nat} (hg : w.grownBy w1 row) {p : Addr} {x : Value} (hne : ∀ k, row = some k → k ≠ p.block) (hc : w.cell? p = some x) : w1.cell? p = some x :=
  hg.cell hc fun e => hne _ e.symm rfl
theorem gr_gb {w0 w w1 : World} {row : Option Nat} (h : Gr w0 w) (hg : w.grownBy w1 row) (hr : ∀ k, row = some k → w0.heap.size ≤ k) : Gr w0 w1 := h.grown hg h.size hr
theorem news_at {W : World} {cs : Array Value} {t : TypeId} (H : Nat) (h : W.heap.size = H) : ∀ j u, cs.toList[j]? = some u → (W.alloc (.cells cs t)).cell? ((⟨H, 0, none⟩ : Addr).add j) = some u := by
  subst h
  intro j u hu
  rw [Addr.add_mid, cell_of_row _ W.heap.size _ cs t (0, 0) (heap_alloc_new W _)]
  simpa using hu
theorem cells_at {W : World} {cs : Array Value} {t : TypeId} (H : Nat) (h : W.heap.size = H) : ∀ j u, cs.toList[j]? = some u → (W.alloc (.cells cs t)).cell? ⟨H, 0 + j, none⟩ = some u := by
  intro j u hu
  have := news_at (t := t) H h j u hu
  rwa [Addr.add_mid] at this
theorem own_slice {w : World} {base e size n : Nat} {v : Value} {xs : List Value} (h : w.ownsRow base e size v n xs) : ∃ a c, v = .slice a n c := by
  rcases h.2 with ⟨h2, hn⟩ | ⟨g, cap, cur, hv, _⟩
  · exact ⟨none, 0, by rw [h2, hn]⟩
  · exact ⟨_, _, hv⟩
theorem own_at {w : World} {base e size n : Nat} {v : Value} {xs : List Value} (h : w.ownsRow base e size v n xs) (hn : 0 < n) : ∃ g c, v = .slice (some ⟨g, 0, none⟩) n c ∧ base ≤ g ∧ g < w.heap.size := by
  rcases h.2 with ⟨h2, h3⟩ | ⟨g, cap, cur, hv, hb, hg, _⟩
  · omega
  · exact ⟨g, cap, hv, hb, (Array.getElem?_eq_some_iff.1 hg).1⟩
theorem flat2_get {α : Type} (f g : α → Value) (l : List α) (k : Nat) (h : k < l.length) :
    (l.flatMap fun x => [f x, g x])[k * 2]? = some (f l[k]) ∧ (l.flatMap fun x => [f x, g x])[k * 2 + 1]? = some (g l[k]) := by
  induction l generalizing k with
  | nil => simp at h
  | cons x r ih =>
    cases k with
    | zero => simp
    | succ k =>
      have := ih k (by simpa using h)
      rw [show (k + 1) * 2 = k * 2 + 1 + 1 by omega]
      simpa using this
end Go.Proofs.Ytpnpnjfflblkpaa

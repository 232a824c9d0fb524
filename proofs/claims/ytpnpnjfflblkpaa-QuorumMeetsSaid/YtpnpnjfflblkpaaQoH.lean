/- QuorumMeets: what its walk carries. -/
import Derived.Test.YtpnpnjfflblkpaaQoF
namespace Go.Proofs.Ytpnpnjfflblkpaa
open Go.RowKit Go.Maps Go.Sort Go.Shelf

theorem Bt.blk {X : Nat → Prop} {w w' : World} (hb : Bt X w w') {k : Nat} {o : Obj} (h : w.heap[k]? = some o) (hx : ¬ X k) : w'.heap[k]? = some o := by
  have hl : k < w.heap.size := (Array.getElem?_eq_some_iff.1 h).1
  rw [hb.block k hl hx]; exact h
theorem blk_ne_map {w : World} {k b : Nat} {cs : Array Value} {T : TypeId} {fr : Nat × Nat} (h : w.heap[k]? = some (.cells cs T fr)) (hm : ∃ es c, w.heap[b]? = some (.map es c)) : k ≠ b := fun e => by
  obtain ⟨es, c, hm⟩ := hm
  rw [e, hm] at h; cases h
theorem mx_one {k : Nat} (h : 1 ≤ k) : mx (k : Int) 1 = k := by unfold mx; rw [if_neg (by omega)]
/-- The blocks of the lists, and of their array. -/
def XF (A : Nat) (F : Nat → Value) (j : Nat) : Prop := j = A ∨ ∃ m, m < 8 ∧ (F m).ownBlock = some j
/-- What the walk carries: the write, the read, the lists, the point, the orders. -/
structure MW (w0 w : World) (p b p2 b2 g2 : Nat) (k r : Int) (n : Nat) (x : Pt) (Hw Hs J : List Int) (A NB PB OB : Nat) (os : Array Value) (X : Nat → Prop) (F : Nat → Value) : Prop where
  wr : WrF w p b k (upA n) Hw A
  rd : RdF w p2 b2 g2 r (upA n) J (glO (stM n x Hs) J) A X
  hd : Hd8 w A NB (stM n x Hs) F
  gr : Gr w0 w
  bp : w.heap[PB]? = some (.cells (ptC x).toArray 26 (0, 0))
  bo : w.heap[OB]? = some (.cells os 28 (0, 0))
  n1 : b ≠ b2
  n2 : b ≠ g2
  lb : w0.heap.size ≤ b
  lb2 : w0.heap.size ≤ b2
  lg2 : w0.heap.size ≤ g2
  la : w0.heap.size ≤ A
  pa : PB < A
  oa : OB < A
  n8 : n ≤ 8
section
variable {w0 w w' : World} {p b p2 b2 g2 n A NB PB OB : Nat} {k r : Int} {x : Pt} {Hw Hs J : List Int} {os : Array Value} {X : Nat → Prop} {F : Nat → Value}
theorem up_len8 (h : n ≤ 8) : (upA n).length ≤ 1000 := by rw [up_len]; omega
theorem MW.grow (h : MW w0 w p b p2 b2 g2 k r n x Hw Hs J A NB PB OB os X F) (hg : Gr w w') : MW w0 w' p b p2 b2 g2 k r n x Hw Hs J A NB PB OB os X F :=
  ⟨h.wr.gr hg, h.rd.gr hg, h.hd.gr hg, h.gr.tr hg, hg.blk h.bp, hg.blk h.bo, h.n1, h.n2, h.lb, h.lb2, h.lg2, h.la, h.pa, h.oa, h.n8⟩
theorem MW.ack (h : MW w0 w p b p2 b2 g2 k r n x Hw Hs J A NB PB OB os X F) (hH : Hw.length ≤ 1000) (m : Nat) (hm : m ≤ 7) :
    Calls Try.prog 14 #[.pointer (some ⟨p, 0, none⟩), .int .i64 (m : Int)] w fun e w' => e = .returned (.bool (decide (ackB (upA n) Hw m))) ∧ MW w0 w' p b p2 b2 g2 k r n x (ackH (upA n) Hw m) Hs J A NB PB OB os X F := by
  refine (h.wr.ack (up_len8 h.n8) hH m (by unfold I64; omega)).mono ?_
  rintro e w' ⟨rfl, h1, h2, h3⟩
  have hX : ∀ j, b = j → ∃ es c, w.heap[j]? = some (.map es c) := fun j e => by rw [← e]; exact h3
  exact ⟨rfl, h1, h.rd.btm h2 hX h.n1 h.n2, h.hd.btm h2 hX, h2.gr h.gr (fun j e => by rw [← e]; exact h.lb), h2.blk h.bp (fun e => blk_ne_map h.bp h3 e.symm), h2.blk h.bo (fun e => blk_ne_map h.bo h3 e.symm), h.n1, h.n2, h.lb, h.lb2, h.lg2, h.la, h.pa, h.oa, h.n8⟩
theorem MW.put (h : MW w0 w p b p2 b2 g2 k r n x Hw Hs [] A NB PB OB os (fun j => A ≤ j) F) {m : Nat} (hm : m < n) {wo : World} (hg : Gr wo w) (hF : Hd8 wo A NB (stM n x Hs) F) {v : Value} (hv : w.ownsRow wo.heap.size 26 6 v [x].length (encP [x])) :
    MW w0 (w.setCell ⟨A, m, none⟩ v) p b p2 b2 g2 k r n x Hw (Hs ++ [(m : Int)]) [] A NB PB OB os (fun j => A ≤ j) (fun j => if j = m then v else F j) := by
  have hb := bt_set w A m v
  have hm8 : m < 8 := by have := h.n8; omega
  have hd := h.hd.put hm8 (own_mono hv hF.nw) (fun j kk hj hne hk z => by
    have h1 := (hF.own_lt hj hk).2
    have h2 := (hv.lt kk z).1
    omega)
  have hrd := h.rd.far hb (fun j e => by rw [e]; exact ⟨Nat.le_refl _, Nat.le_refl _⟩)
  rw [glO_nil] at hrd
  exact ⟨h.wr.far hb (fun j e => by rw [e]; exact Nat.le_refl _), by rw [glO_nil]; exact hrd, hd.congr (stM_put hm).symm, Gr.sc h.gr h.la _, hb.blk h.bp (fun e => by have := h.pa; omega), hb.blk h.bo (fun e => by have := h.oa; omega), h.n1, h.n2, h.lb, h.lb2, h.lg2, h.la, h.pa, h.oa, h.n8⟩
theorem MW.turn (h : MW w0 w p b p2 b2 g2 k r n x Hw Hs [] A NB PB OB os (fun j => A ≤ j) F) : MW w0 w p b p2 b2 g2 k r n x Hw Hs [] A NB PB OB os (XF A F) F :=
  ⟨h.wr, h.rd.mono (fun j hj => by
    rcases hj with e | ⟨m, hm, hk⟩
    · rw [e]; exact Nat.le_refl _
    · have := (h.hd.own_lt hm hk).1
      have := h.hd.ab
      show A ≤ j
      omega), h.hd, h.gr, h.bp, h.bo, h.n1, h.n2, h.lb, h.lb2, h.lg2, h.la, h.pa, h.oa, h.n8⟩
theorem Hd8.xf {g : Nat → List Pt} (h : Hd8 w A NB g F) : ∀ j, XF A F j → A ≤ j ∧ j < w.heap.size := fun j hj => by
  rcases hj with e | ⟨m, hm, hk⟩
  · rw [e]
    have := h.ab; have := h.nw
    exact ⟨Nat.le_refl _, by omega⟩
  · have := h.own_lt hm hk
    have := h.ab
    exact ⟨by omega, by omega⟩
theorem MW.ans (h : MW w0 w p b p2 b2 g2 k r n x Hw Hs J A NB PB OB os (XF A F) F) (hJ : J.length ≤ 1000) (m : Nat) (hm : m ≤ 7) :
    Calls Try.prog 17 #[.pointer (some ⟨p2, 0, none⟩), .int .i64 (m : Int), F m] w fun e w' => e = .returned (.bool (decide (ackB (upA n) J m))) ∧ MW w0 w' p b p2 b2 g2 k r n x Hw Hs (ackH (upA n) J m) A NB PB OB os (XF A F) F := by
  refine (h.rd.answer (fun j hj => (h.hd.xf j hj).2) (up_len8 h.n8) hJ m (by unfold I64; omega) (F m) (stM n x Hs m) (rdRow_of_own (h.hd.row m (by omega))) (Nat.le_trans (stM_len n x Hs m) (by decide))).mono ?_
  rintro e w' ⟨rfl, h1, h2, h3, h4⟩
  rw [upL_glO] at h1
  have hX : ∀ j, (b2 = j ∨ g2 = j) → ∃ es c, w.heap[j]? = some (.map es c) := fun j e => by rcases e with e | e <;> rw [← e] <;> assumption
  exact ⟨rfl, h.wr.btm h2 hX (fun e => e.elim (fun e => h.n1 e.symm) (fun e => h.n2 e.symm)), h1, h.hd.btm h2 hX, h2.gr h.gr (fun j e => e.elim (fun e => by rw [← e]; exact h.lb2) (fun e => by rw [← e]; exact h.lg2)),
    h2.blk h.bp (fun e => e.elim (fun e => blk_ne_map h.bp h3 e.symm) (fun e => blk_ne_map h.bp h4 e.symm)), h2.blk h.bo (fun e => e.elim (fun e => blk_ne_map h.bo h3 e.symm) (fun e => blk_ne_map h.bo h4 e.symm)), h.n1, h.n2, h.lb, h.lb2, h.lg2, h.la, h.pa, h.oa, h.n8⟩
end
/-- What the last loop carries. -/
structure MV (w0 w : World) (p2 b2 g2 : Nat) (r : Int) (n : Nat) (x : Pt) (H J : List Int) (A NB PB : Nat) (F F' : Nat → Value) (i : Nat) : Prop where
  rd : RdF w p2 b2 g2 r (upA n) J (glO (stM n x H) J) A (XF A F)
  hd : Hd8 w A NB (fun m => if m < i then [x] else stM n x H m) F'
  gr : Gr w0 w
  bp : w.heap[PB]? = some (.cells (ptC x).toArray 26 (0, 0))
  old : ∀ m, i ≤ m → F' m = F m
  la : w0.heap.size ≤ A
  pa : PB < A
section
variable {w0 w w' : World} {p b p2 b2 g2 n A NB PB OB : Nat} {k r : Int} {x : Pt} {Hw H J : List Int} {os : Array Value} {F F' : Nat → Value} {i : Nat}
theorem MW.last (h : MW w0 w p b p2 b2 g2 k r n x Hw H J A NB PB OB os (XF A F) F) : MV w0 w p2 b2 g2 r n x H J A NB PB F F 0 :=
  ⟨h.rd, h.hd.congr (by funext m; rw [if_neg (Nat.not_lt_zero _)]), h.gr, h.bp, fun _ _ => rfl, h.la, h.pa⟩
theorem MV.grow (h : MV w0 w p2 b2 g2 r n x H J A NB PB F F' i) (hg : Gr w w') : MV w0 w' p2 b2 g2 r n x H J A NB PB F F' i :=
  ⟨h.rd.gr hg, h.hd.gr hg, h.gr.tr hg, hg.blk h.bp, h.old, h.la, h.pa⟩
theorem MV.step (h : MV w0 w p2 b2 g2 r n x H J A NB PB F F' i) (hi : i < 8) (hb : Bt (fun j => (F' i).ownBlock = some j) w w') {w2 : World} (hg : Gr w' w2) {v : Value} (hv : w2.ownsRow w.heap.size 26 6 v [x].length (encP [x])) :
    MV w0 (w2.setCell ⟨A, i, none⟩ v) p2 b2 g2 r n x H J A NB PB F (fun j => if j = i then v else F' j) (i + 1) := by
  have hs := bt_set w2 A i v
  have hx : ∀ j, (F' i).ownBlock = some j → XF A F j := fun j hj => .inr ⟨i, hi, by rw [← h.old i (Nat.le_refl _)]; exact hj⟩
  have hA : ∀ j, (F' i).ownBlock = some j → A ≤ j := fun j hj => by have := (h.hd.own_lt hi hj).1; have := h.hd.ab; omega
  refine ⟨((h.rd.far hb (fun j hj => ⟨hA j hj, hx j hj⟩)).gr hg).far hs (fun j e => by rw [e]; exact ⟨Nat.le_refl _, .inl rfl⟩), (h.hd.back hi hb hg hv).congr ?_, Gr.sc ((hb.gr h.gr (fun j hj => Nat.le_trans h.la (hA j hj))).tr hg) h.la _, hs.blk (hg.blk (hb.blk h.bp (fun hj => by have := hA _ hj; have := h.pa; omega))) (fun e => by have := h.pa; omega), fun m hm => ?_, h.la, h.pa⟩
  · funext m
    by_cases e : m = i
    · rw [if_pos e, if_pos (by omega)]
    · rw [if_neg e]
      by_cases h2 : m < i
      · rw [if_pos h2, if_pos (by omega)]
      · rw [if_neg h2, if_neg (by omega)]
  · rw [if_neg (by omega)]
    exact h.old m (by omega)
end
/-- What was put there ahead, to i. -/
def stI (x : Pt) (i m : Nat) : List Pt := if m < i then elL x else []
theorem stI_zero (x : Pt) : (fun _ => []) = stI x 0 := by funext m; unfold stI; rw [if_neg (Nat.not_lt_zero _)]
theorem stI_put {x : Pt} (h : 1 ≤ x.c - 1) (i : Nat) : stI x (i + 1) = fun k => if k = i then [eldP x] else stI x i k := by
  funext k
  unfold stI elL
  rw [if_pos h]
  by_cases e : k = i
  · subst e; rw [if_pos (by omega), if_pos rfl]
  · rw [if_neg e]
    by_cases h2 : k < i
    · rw [if_pos h2, if_pos (by omega)]
    · rw [if_neg h2, if_neg (by omega)]
theorem stI_skip {x : Pt} (h : ¬ 1 ≤ x.c - 1) (i : Nat) : stI x (i + 1) = stI x i := by
  funext k
  unfold stI elL
  rw [if_neg h]
  split <;> split <;> rfl
theorem stM_nil (n : Nat) (x : Pt) : stM n x [] = stI x n := by
  funext m
  unfold stM stI
  simp
theorem glM_len (n : Nat) (x : Pt) (H J : List Int) (k : Int) : (glO (stM n x H) J k).length ≤ 10 := by
  unfold glO
  split
  · exact Nat.le_trans (sortP_len _) (Nat.le_trans (stM_len _ _ _ _) (by decide))
  · exact Nat.zero_le _
end Go.Proofs.Ytpnpnjfflblkpaa

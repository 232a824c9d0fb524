/- CausalOrder: plain. -/
import Derived.Test.YtnneebdcaefgoaaCbO
namespace Go.Proofs.Ytnneebdcaefgoaa
open Go.RowKit Go.Maps

/-- How many of a log's records are not out. -/
def remN (l : List Rec) (out : List Int) : Nat := l.countP fun r => decide (atV out r.st < r.q)
/-- All that is not out, held. -/
def fullB (l : List Rec) (out : List Int) : Buf := ⟨400, out, fun s q => if atV out s < q ∧ true = true then keyF l s q else none, remN l out⟩
theorem fullB_bi (l : List Rec) {out : List Int} (hp : plainV out = out) : BI l (fun _ _ => true) (fullB l out) := by
  refine ⟨rfl, fun _ _ => rfl, ?_, hp⟩
  show remN l out = _
  unfold remN
  refine List.countP_congr (fun r _ => ?_)
  rw [Bool.and_true]; exact Iff.rfl
theorem rem_take {l : List Rec} (hl : LogP l) {Off : Int → Int → Bool} {B : Buf} (h : BI l Off B) {k : Nat} (hk : k < 8) {r : Rec} (hn : nextOf B k = some r) : remN l (takeB B k r).out + 1 = remN l B.out := by
  have h0 := fullB_bi l h.plain
  have hn' : nextOf (fullB l B.out) k = some r := by
    obtain ⟨h1, h2⟩ := next_some hn
    rw [h.f] at h1
    split at h1
    case isFalse => cases h1
    rename_i hc
    unfold nextOf
    have e : (fullB l B.out).f k (atV (fullB l B.out).out k + 1) = some r := by
      show (if atV B.out k < atV B.out k + 1 ∧ true = true then keyF l k (atV B.out k + 1) else none) = _
      rw [if_pos ⟨hc.1, rfl⟩, h1]
    rw [e]
    exact if_pos h2
  obtain ⟨g1, g2, _⟩ := h0.take hl hk hn'
  have e1 : (takeB (fullB l B.out) k r).n = remN l (takeB B k r).out := by
    rw [g1.n]
    unfold remN
    refine List.countP_congr (fun r _ => ?_)
    rw [Bool.and_true]; exact Iff.rfl
  have e2 : (fullB l B.out).n = remN l B.out := rfl
  rw [e1, e2] at g2
  exact g2
theorem rem_start {l : List Rec} (hl : LogP l) : remN l [] = l.length := by
  unfold remN
  rw [List.countP_eq_length]
  intro r hr
  obtain ⟨j, hj, rfl⟩ := List.getElem_of_mem hr
  have := know_lt l hl j 0 hj (Nat.zero_le _)
  rw [List.take_zero] at this
  exact decide_eq_true this
/-- What the offers did: B as it lies, out of them; all out of l. -/
structure OI (l : List Rec) (Off : Int → Int → Bool) (B : Buf) (o : Nat) : Prop where
  bi : BI l Off B
  sum : o + remN l B.out = l.length
theorem OI.take {l : List Rec} (hl : LogP l) {Off : Int → Int → Bool} {B : Buf} {o : Nat} (h : OI l Off B o) {k : Nat} {r : Rec} (hn : nextAll B = some (k, r)) :
    OI l Off (takeB B k r) (o + 1) ∧ Cov B.out r.d ∧ r.st = k ∧ r.q = atV B.out k + 1 ∧ r.d.length ≤ 8 ∧ o + 1 ≤ l.length := by
  obtain ⟨hk, hs⟩ := nextAll_some hn
  obtain ⟨g1, g2, ⟨j, hj, e, e1, e2, _⟩, g4⟩ := h.bi.take hl hk hs
  have h3 := rem_take hl h.bi hk hs
  have h4 := h.sum
  refine ⟨⟨g1, by omega⟩, g4, e1, e2, ?_, by omega⟩
  rw [← e]; exact recOk_len (hl j hj).1
theorem OI.offer {l : List Rec} (hl : LogP l) (hlen : l.length ≤ 40) {Off : Int → Int → Bool} {B : Buf} {o : Nat} (h : OI l Off B o) {j : Nat} (hj : j < l.length) : OI l (offAdd Off l[j]) (offB B l[j]) o :=
  ⟨h.bi.offer hl hlen hj, by rw [offB_out]; exact h.sum⟩
theorem OI.new (l : List Rec) (hl : LogP l) : OI l (offK l 0) (bufNew 400 []) 0 :=
  ⟨BI.new l [] (by decide), by rw [bufNew_out (by decide), rem_start hl]; omega⟩
theorem OI.done {l : List Rec} (hl : LogP l) {Off : Int → Int → Bool} {B : Buf} {o : Nat} (h : OI l Off B o) (hall : ∀ j (hj : j < l.length), Off l[j].st l[j].q = true) (hn : nextAll B = none) : B.n = 0 ∧ o = l.length := by
  have h1 : BI l (offK l l.length) B := h.bi.congr (fun j hj _ => by rw [hall j hj, (offK_iff hl hj).2 hj])
  have h2 : B.n = 0 := by
    by_cases e : B.n = 0
    · exact e
    · obtain ⟨k, r, _, e1, _⟩ := h1.some hl (by omega)
      rw [hn] at e1; cases e1
  have h3 : remN l B.out = B.n := by
    rw [h.bi.n]
    unfold remN
    refine List.countP_congr (fun r hr => ?_)
    obtain ⟨j, hj, rfl⟩ := List.getElem_of_mem hr
    rw [hall j hj, Bool.and_true]
  have := h.sum
  exact ⟨h2, by omega⟩
theorem offAdd_own (Off : Int → Int → Bool) (r : Rec) : offAdd Off r r.st r.q = true := by simp [offAdd]
theorem offAdd_of {Off : Int → Int → Bool} (r : Rec) {s q : Int} (h : Off s q = true) : offAdd Off r s q = true := by simp [offAdd, h]
/-- The last offers: from the back. -/
def Back (l : List Rec) (Off : Int → Int → Bool) (k : Nat) : Prop := ∀ j (hj : j < l.length), l.length ≤ j + k → Off l[j].st l[j].q = true
theorem Back.zero (l : List Rec) (Off : Int → Int → Bool) : Back l Off 0 := fun j hj h => by omega
theorem Back.more {l : List Rec} {Off : Int → Int → Bool} {k : Nat} (h : Back l Off k) (r : Rec) : Back l (offAdd Off r) k := fun j hj hk => offAdd_of r (h j hj hk)
theorem Back.succ {l : List Rec} {Off : Int → Int → Bool} {k : Nat} (h : Back l Off k) {j : Nat} (hj : j < l.length) (e : j + k + 1 = l.length) : Back l (offAdd Off l[j]) (k + 1) := fun i hi hk => by
  by_cases e2 : i = j
  · subst e2; exact offAdd_own _ _
  · exact offAdd_of _ (h i hi (by omega))
theorem rdX.turn {w w' : World} {p : Nat} {mb mb' : Option Nat} {v : Value} {l : List Int} (h : rdX (BX p mb) w v l) (hb : Bt (BX p mb) w w') (hm : SameMap w mb mb') : rdX (BX p mb') w' v l :=
  ((h.wid (Y := fun k => BX p mb k ∨ w.heap.size ≤ k) (fun k hk => hk)).bt hb (fun k hk => .inl hk)).mono (fun k hk => by
    rcases hm with rfl | ⟨_, b, rfl, hbz⟩
    · exact .inl hk
    · rcases hk with hk | hk
      · exact .inl (.inl hk)
      · injection hk with hk; exact .inr (by omega))
/-- A row of the call's own in no block of the buffer. -/
theorem rdX_fresh {w w' : World} {p : Nat} {mb : Option Nat} {B : Buf} {v : Value} {l : List Int} {e : Nat} (hB : BufAt w p mb B) (h : w'.ownsRow w.heap.size e 1 v l.length (encI l)) : rdX (BX p mb) w' v l :=
  (own_rdX h).mono (fun k hk => by
    rcases hk with rfl | hk
    · exact hB.1
    · exact (hB.2.1 k hk).1)
end Go.Proofs.Ytnneebdcaefgoaa

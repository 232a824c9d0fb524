/- Lists of records that the call made; elements of lists of calls. -/
import Derived.Test.YtnneebdcaefgoaaCbD
import Derived.Test.YtnneebdcaefgoaaFrO
import Derived.Deep.MidRow
namespace Go.Proofs.Ytnneebdcaefgoaa
open Go.RowKit Go.Maps

def recL (x : Rec × Value) : List Value := (recC x.1 x.2).toList
abbrev encR (L : List (Rec × Value)) : List Value := L.flatMap recL
theorem recL_len (x : Rec × Value) : (recL x).length = 9 := rfl
theorem encR_len (L : List (Rec × Value)) : (encR L).length = L.length * 9 := by
  induction L with
  | nil => rfl
  | cons x r ih => rw [encR, List.flatMap_cons, List.length_append, recL_len, List.length_cons]; show 9 + (encR r).length = _; rw [ih]; omega
theorem flat_get {α : Type} (e : α → List Value) (k : Nat) (hk : ∀ x, (e x).length = k) : ∀ (L : List α) (j : Nat) (hj : j < L.length) (i : Nat), i < k → (L.flatMap e)[j * k + i]? = (e L[j])[i]?
  | [], j, hj, _, _ => by simp at hj
  | x :: r, 0, _, i, hi => by
    rw [List.flatMap_cons, List.getElem?_append_left (by rw [hk]; omega)]
    simp
  | x :: r, j + 1, hj, i, hi => by
    rw [List.flatMap_cons, List.getElem?_append_right (by rw [hk, Nat.add_mul]; omega), hk, Nat.add_mul, show j * k + 1 * k + i - k = j * k + i by omega]
    exact flat_get e k hk r j (by simpa using hj) i hi
/-- An element of a row that is read: its cells. -/
theorem rd_range {α : Type} (e : α → List Value) (k : Nat) (hk : ∀ x, (e x).length = k) {w : World} {v : Value} {L : List α} (h : rdRow w k v L.length (L.flatMap e)) (hn : 0 < L.length) :
    ∃ b o c, v = .slice (some ⟨b, o, none⟩) L.length c ∧ L.length ≤ c ∧ ∀ j (hj : j < L.length), w.rangeAt b (o + j * k) (e L[j]) := by
  obtain ⟨_, a, c, rfl, hc, h2⟩ := h
  obtain ⟨b, o, rfl, h3⟩ := h2 hn
  refine ⟨b, o, c, rfl, hc, fun j hj i u hu => ?_⟩
  have hi : i < k := by have := (List.getElem?_eq_some_iff.1 hu).1; rw [hk] at this; exact this
  have := h3 (j * k + i) u (by rw [flat_get e k hk L j hj i hi]; exact hu)
  rwa [Nat.add_assoc]
theorem rangeAt_gr {w w1 : World} (hg : Gr w w1) {b o : Nat} {cs : List Value} (h : w.rangeAt b o cs) : w1.rangeAt b o cs := fun j v hv => keepc hg (h j v hv)
theorem rangeAt_blk {w : World} {A : Nat} {cs : Array Value} {T : TypeId} (h : w.heap[A]? = some (.cells cs T (0, 0))) (o : Nat) (l : List Value) (hl : ∀ j u, l[j]? = some u → cs[o + j]? = some u) : w.rangeAt A o l := fun j u hu => by
  rw [cell_of_row w A _ _ _ _ h]; exact hl j u hu
/-- Records of the call's own making, none of it in a block of X. -/
def Recs (X : Nat → Prop) (w : World) (base : Nat) (v : Value) (L : List (Rec × Value)) : Prop :=
  w.ownsRow base 33 9 v L.length (encR L) ∧ (∀ k, v.ownBlock = some k → ¬ X k) ∧ ∀ x ∈ L, rdX X w x.2 x.1.d
theorem Recs.nil {X : Nat → Prop} {w : World} {base : Nat} : Recs X w base (.slice none 0 0) [] :=
  ⟨World.ownsRow_nil _ _ _ _, fun k e => by simp [Value.ownBlock] at e, fun x hx => by simp at hx⟩
theorem own_bt {X : Nat → Prop} {w w' : World} {base e size n : Nat} {v : Value} {xs : List Value} (h : w.ownsRow base e size v n xs) (hb : Bt X w w') (hx : ∀ k, v.ownBlock = some k → ¬ X k) : w'.ownsRow base e size v n xs := by
  refine ⟨h.1, ?_⟩
  rcases h.2 with h2 | ⟨g, cap, cur, hv, hg, hh, hr⟩
  · exact .inl h2
  · exact .inr ⟨g, cap, cur, hv, hg, (hb.block g (blk_lt hh) (hx g (by rw [hv]; rfl))).trans hh, hr⟩
theorem Recs.bt {X Y : Nat → Prop} {w w' : World} {base : Nat} {v : Value} {L : List (Rec × Value)} (h : Recs X w base v L) (hb : Bt Y w w') (hy : ∀ k, Y k → X k) : Recs X w' base v L :=
  ⟨own_bt h.1 hb (fun k e z => h.2.1 k e (hy k z)), h.2.1, fun x hx => (h.2.2 x hx).bt hb hy⟩
theorem Recs.gr {X : Nat → Prop} {w w' : World} {base : Nat} {v : Value} {L : List (Rec × Value)} (h : Recs X w base v L) (hg : Gr w w') : Recs X w' base v L :=
  h.bt (Y := fun _ => False) (.of hg) (fun _ z => z.elim)
theorem Recs.wid {X Y : Nat → Prop} {w : World} {base : Nat} {v : Value} {L : List (Rec × Value)} (h : Recs X w base v L) (hy : ∀ k, Y k → X k ∨ w.heap.size ≤ k) : Recs Y w base v L :=
  ⟨h.1, fun k e z => (hy k z).elim (h.2.1 k e) (fun hz => by have := (h.1.lt k e).2; omega), fun x hx => (h.2.2 x hx).wid hy⟩
/-- Behind what a buffer did. -/
theorem Recs.buf {w w' : World} {p base : Nat} {mb mb' : Option Nat} {v : Value} {L : List (Rec × Value)} (h : Recs (BX p mb) w base v L) (hb : Bt (BX p mb) w w') (hm : SameMap w mb mb') : Recs (BX p mb') w' base v L := by
  have h1 := (h.wid (Y := fun k => BX p mb k ∨ w.heap.size ≤ k) (fun k hk => hk)).bt hb (fun k hk => .inl hk)
  refine h1.wid (fun k hk => .inl ?_)
  rcases hm with rfl | ⟨_, b, rfl, hbz⟩
  · exact .inl hk
  · rcases hk with hk | hk
    · exact .inl (.inl hk)
    · injection hk with hk; exact .inr (by omega)
theorem Recs.form {X : Nat → Prop} {w : World} {base : Nat} {v : Value} {L : List (Rec × Value)} (h : Recs X w base v L) : ∃ a c, v = .slice a L.length c ∧ L.length ≤ c := by
  rcases h.1.2 with ⟨rfl, h0⟩ | ⟨g, cap, cur, rfl, _, _, hn, _⟩
  · exact ⟨none, 0, by rw [h0], by omega⟩
  · exact ⟨_, cap, rfl, hn⟩
theorem encR_snoc (L : List (Rec × Value)) (x : Rec × Value) : encR (L ++ [x]) = encR L ++ recL x := by simp [encR]
/-- Behind an append of one. -/
theorem Recs.snoc {X : Nat → Prop} {w w1 : World} {base : Nat} {v v1 : Value} {L : List (Rec × Value)} {x : Rec × Value} (h : Recs X w base v L) (ho : w1.ownsRow base 33 9 v1 (L.length + 1) (encR L ++ recL x)) (hg : w.grownBy w1 v.ownBlock) (hX : ∀ k, X k → k < w.heap.size)
    (hlies : ∀ k, v1.ownBlock = some k → v.ownBlock = some k ∨ w.heap.size ≤ k) (hx : rdX X w1 x.2 x.1.d) (hrest : ∀ y ∈ L, rdX X w1 y.2 y.1.d) : Recs X w1 base v1 (L ++ [x]) := by
  refine ⟨own_cast ho (by simp) (encR_snoc L x).symm, fun k e z => ?_, fun y hy => ?_⟩
  · rcases hlies k e with h1 | h1
    · exact h.2.1 k h1 z
    · have := hX k z; omega
  · rcases List.mem_append.1 hy with hy | hy
    · exact hrest y hy
    · rw [List.mem_singleton.1 hy]; exact hx
end Go.Proofs.Ytnneebdcaefgoaa

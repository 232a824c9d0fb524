/- QuorumMeets: the plain law. -/
import Derived.Test.YtpnpnjfflblkpaaQoB
namespace Go.Proofs.Ytpnpnjfflblkpaa
open Go.RowKit Go.Maps Go.Sort Go.Shelf

def eldP (p : Pt) : Pt := { p with c := p.c - 1, v := 0 }
theorem bt_pe (p : Pt) : bt p (eldP p) = p := if_neg fun h => by
  have := h.2.2
  unfold lessT eldP at this
  simp only at this
  omega
theorem bt_ep (p : Pt) : bt (eldP p) p = p := if_pos ⟨rfl, rfl, by unfold lessT eldP; simp only; omega⟩
theorem bt_same (p : Pt) : bt p p = p := by unfold bt; split <;> rfl
theorem fold_pe {p : Pt} : ∀ (r : List Pt) (x : Pt), (x = p ∨ x = eldP p) → (∀ y ∈ r, y = p ∨ y = eldP p) → p ∈ x :: r → r.foldl bt x = p
  | [], x, _, _, hp => (List.mem_singleton.1 hp).symm
  | y :: r, x, hx, hr, hp => by
    have hr' : ∀ z ∈ r, z = p ∨ z = eldP p := fun z hz => hr z (List.mem_cons_of_mem _ hz)
    have hy := hr y (List.mem_cons_self ..)
    show r.foldl bt (bt x y) = p
    rcases hx with rfl | rfl
    · have e : bt x y = x := hy.elim (fun e => by rw [e]; exact bt_same _) (fun e => by rw [e]; exact bt_pe _)
      rw [e]
      exact fold_pe r x (.inl rfl) hr' (List.mem_cons_self ..)
    · rcases hy with rfl | rfl
      · rw [bt_ep]
        exact fold_pe r y (.inl rfl) hr' (List.mem_cons_self ..)
      · rw [bt_same]
        refine fold_pe r _ (.inr rfl) hr' ?_
        rcases List.mem_cons.1 hp with e | e
        · rw [← e]; exact List.mem_cons_self ..
        · exact e
theorem sort_pe {p : Pt} {l : List Pt} (h : ∀ y ∈ l, y = p ∨ y = eldP p) (hp : p ∈ l) : sortP l = [p] := by
  refine sortP_eq (List.pairwise_singleton _ _) fun s t => ?_
  have hk : ∀ y ∈ l, y.s = p.s ∧ y.t = p.t := fun y hy => (h y hy).elim (fun e => by rw [e]; exact ⟨rfl, rfl⟩) (fun e => by rw [e]; exact ⟨rfl, rfl⟩)
  rw [atK_one]
  by_cases hst : p.s = s ∧ p.t = t
  · rw [if_pos hst]
    have e : atK s t l = l := by
      unfold atK
      exact List.filter_eq_self.2 fun y hy => by have := hk y hy; simp [this, hst]
    rw [e]
    cases l with
    | nil => cases hp
    | cons x r =>
      show [p] = [r.foldl bt x]
      rw [fold_pe r x (h x (List.mem_cons_self ..)) (fun y hy => h y (List.mem_cons_of_mem _ hy)) hp]
  · rw [if_neg hst]
    have e : atK s t l = [] := by
      unfold atK
      exact List.filter_eq_nil_iff.2 fun y hy => by have := hk y hy; simp only [this]; simpa using hst
    rw [e]; rfl
/-- What was there ahead. -/
def elL (p : Pt) : List Pt := if 1 ≤ p.c - 1 then [eldP p] else []
theorem el_mem {p y : Pt} (h : y ∈ elL p) : y = p ∨ y = eldP p := by
  unfold elL at h
  split at h
  · exact .inr (List.mem_singleton.1 h)
  · cases h
theorem el_put (p : Pt) : putP (elL p) p = [p] := by
  unfold elL
  split
  · have := (putP_end (Q := []) (q := eldP p) (p := p) (List.pairwise_singleton _ _)).2 ⟨rfl, rfl⟩
    rw [bt_ep] at this
    exact this
  · rfl
/-- What the nodes have. -/
def stM (n : Nat) (p : Pt) (H : List Int) (m : Nat) : List Pt := if m < n then (if (m : Int) ∈ H then [p] else elL p) else []
theorem stM_len (n : Nat) (p : Pt) (H : List Int) (m : Nat) : (stM n p H m).length ≤ 1 := by
  unfold stM elL
  split
  · split
    · exact Nat.le_refl _
    · split <;> simp
  · exact Nat.zero_le _
theorem stM_mem {n : Nat} {p : Pt} {H : List Int} {m : Nat} {y : Pt} (h : y ∈ stM n p H m) : y = p ∨ y = eldP p := by
  unfold stM at h
  split at h
  · split at h
    · exact .inl (List.mem_singleton.1 h)
    · exact el_mem h
  · cases h
theorem stM_none {n : Nat} {p : Pt} {H : List Int} {m : Nat} (hm : m < n) (h : (m : Int) ∉ H) : putP (stM n p H m) p = [p] := by
  unfold stM
  rw [if_pos hm, if_neg h, el_put]
theorem stM_put {n : Nat} {p : Pt} {H : List Int} {m : Nat} (hm : m < n) : (fun k => if k = m then [p] else stM n p H k) = stM n p (H ++ [(m : Int)]) := by
  funext k
  unfold stM
  by_cases e : k = m
  · subst e
    rw [if_pos rfl, if_pos hm, if_pos (by simp)]
  · rw [if_neg e]
    have : ((k : Int) ∈ H ++ [(m : Int)]) ↔ (k : Int) ∈ H := by
      rw [List.mem_append, List.mem_singleton]
      exact ⟨fun z => z.resolve_right (fun q => e (by omega)), .inl⟩
    simp only [this]
theorem both_in {P Q : Int → Bool} : ∀ (N : List Int), N.length < (N.filter P).length + (N.filter Q).length → ∃ k ∈ N, P k = true ∧ Q k = true
  | [], h => absurd h (by simp)
  | x :: r, h => by
    by_cases hx : P x = true ∧ Q x = true
    · exact ⟨x, List.mem_cons_self .., hx⟩
    · have h' : r.length < (r.filter P).length + (r.filter Q).length := by
        rw [List.filter_cons, List.filter_cons, List.length_cons] at h
        cases e1 : P x <;> cases e2 : Q x
        · rw [e1, e2] at h; simp at h; omega
        · rw [e1, e2] at h; simp at h; omega
        · rw [e1, e2] at h; simp at h; omega
        · exact absurd ⟨e1, e2⟩ hx
      obtain ⟨k, hk, h2⟩ := both_in r h'
      exact ⟨k, List.mem_cons_of_mem _ hk, h2⟩
theorem up_nodup (n : Nat) : (upA n).Nodup := by
  unfold upA
  refine List.Pairwise.map _ (fun a b h e => h (Int.ofNat.inj e)) List.nodup_range
theorem nodes_up {n : Nat} (h : n ≤ 8) : nodesOf (upA n) = upA n := by
  have : n = 0 ∨ n = 1 ∨ n = 2 ∨ n = 3 ∨ n = 4 ∨ n = 5 ∨ n = 6 ∨ n = 7 ∨ n = 8 := by omega
  rcases this with rfl | rfl | rfl | rfl | rfl | rfl | rfl | rfl | rfl <;> decide
theorem meets_in {n : Nat} {H J : List Int} (hH : AckL (upA n) H) (hJ : AckL (upA n) J) (h : n < H.length + J.length) : ∃ k : Nat, k < n ∧ (k : Int) ∈ H ∧ (k : Int) ∈ J := by
  have e1 := hH.len (up_nodup n)
  have e2 := hJ.len (up_nodup n)
  unfold thoseL at e1 e2
  obtain ⟨k, hk, h1, h2⟩ := both_in (P := fun n => decide (n ∈ H) == true) (Q := fun n => decide (n ∈ J) == true) (upA n) (by rw [e1, e2, up_len]; exact h)
  have hk' := mem_up.1 hk
  refine ⟨k.toNat, by omega, ?_, ?_⟩
  · rw [show ((k.toNat : Nat) : Int) = k by omega]; simpa using h1
  · rw [show ((k.toNat : Nat) : Int) = k by omega]; simpa using h2
theorem glM_mem {n : Nat} {p : Pt} {H J : List Int} {k : Int} {y : Pt} (h : y ∈ glO (stM n p H) J k) : y = p ∨ y = eldP p := by
  unfold glO at h
  split at h
  · exact stM_mem (sortP_mem h)
  · cases h
/-- What is put together of those that answered, behind a done write. -/
theorem meets_all {n : Nat} {p : Pt} {H J : List Int} (hH : AckL (upA n) H) (hJ : AckL (upA n) J) (h : n < H.length + J.length) : sortP (((upA n).map (glO (stM n p H) J)).flatten) = [p] := by
  obtain ⟨k, hk, h1, h2⟩ := meets_in hH hJ h
  refine sort_pe (fun y hy => ?_) (List.mem_flatten.2 ⟨_, List.mem_map.2 ⟨(k : Int), mem_up.2 (by omega), rfl⟩, ?_⟩)
  · obtain ⟨l, hl, hy⟩ := List.mem_flatten.1 hy
    obtain ⟨j, _, rfl⟩ := List.mem_map.1 hl
    exact glM_mem hy
  · unfold glO
    rw [if_pos h2]
    have e : stM n p H (k : Int).toNat = [p] := by
      unfold stM
      rw [show (k : Int).toNat = k by omega, if_pos hk, if_pos h1]
    rw [e]
    exact List.mem_singleton.2 rfl
/-- A node's list with its repair. -/
theorem meets_rep {n : Nat} {p : Pt} {H J : List Int} (hH : AckL (upA n) H) (hJ : AckL (upA n) J) (h : n < H.length + J.length) {i : Nat} (hi : i < n) :
    sortP (stM n p H i ++ repL (upA n) (glO (stM n p H) J) i) = [p] := by
  have hm := meets_all (p := p) hH hJ h
  have er : repL (upA n) (glO (stM n p H) J) i = [p].filter fun x => decide (x ∉ glO (stM n p H) J i) := by
    unfold repL
    rw [if_pos (mem_up.2 (by omega)), hm]
  rw [er]
  refine sort_pe (fun y hy => ?_) ?_
  · rcases List.mem_append.1 hy with hy | hy
    · exact stM_mem hy
    · exact .inl (List.mem_singleton.1 (List.mem_filter.1 hy).1)
  · by_cases hp : p ∈ glO (stM n p H) J i
    · refine List.mem_append_left _ ?_
      unfold glO at hp
      split at hp
      · have := sortP_mem hp
        rwa [show (i : Int).toNat = i by omega] at this
      · cases hp
    · exact List.mem_append_right _ (List.mem_filter.2 ⟨List.mem_singleton.2 rfl, by simpa using hp⟩)
theorem rep_len1 {n : Nat} {p : Pt} {H J : List Int} (hH : AckL (upA n) H) (hJ : AckL (upA n) J) (h : n < H.length + J.length) (i : Int) : (repL (upA n) (glO (stM n p H) J) i).length ≤ 1 := by
  unfold repL
  split
  · rw [meets_all hH hJ h]
    exact Nat.le_trans (List.length_filter_le _ _) (Nat.le_refl _)
  · exact Nat.zero_le _
/-- Who has acknowledged, and from where on all have. -/
structure AckM (n : Nat) (H : List Int) (m : Nat) (i : Nat) : Prop where
  ok : AckL (upA n) H
  all : ∀ j, m + j < i → j < n → (j : Int) ∈ H
theorem AckM.zero (n m : Nat) : AckM n [] m 0 := ⟨⟨fun k h => (by cases h), List.nodup_nil⟩, fun j h => absurd h (by omega)⟩
theorem ackH_mem {N H : List Int} {k x : Int} (h : x ∈ H) : x ∈ ackH N H k := by
  unfold ackH
  split
  · exact List.mem_append_left _ h
  · exact h
theorem ackH_self {N H : List Int} {k : Int} (h : k ∈ N) : k ∈ ackH N H k := by
  unfold ackH
  split
  · simp
  · rename_i hn
    by_cases hk : k ∈ H
    · exact hk
    · exact absurd ⟨h, hk⟩ hn
theorem AckM.step {n : Nat} {H : List Int} {m i : Nat} (h : AckM n H m i) (k : Int) (hk : m ≤ i → k = (i : Int) - m) : AckM n (ackH (upA n) H k) m (i + 1) := by
  refine ⟨h.ok.ack k, fun j hj hn => ?_⟩
  by_cases e : m + j = i
  · have := hk (by omega)
    have e2 : k = (j : Int) := by omega
    rw [e2]
    exact ackH_self (mem_up.2 (by omega))
  · exact ackH_mem (h.all j (by omega) hn)
theorem AckM.len_le {n : Nat} {H : List Int} {m i : Nat} (h : AckM n H m i) : H.length ≤ n := by
  have e := h.ok.len (up_nodup n)
  rw [← e]
  unfold thoseL
  exact Nat.le_trans (List.length_filter_le _ _) (by rw [up_len]; exact Nat.le_refl _)
/-- Beyond the list and all nodes nothing is left to wait for. -/
theorem AckM.full {n : Nat} {H : List Int} {m i : Nat} (h : AckM n H m i) (hi : m + n ≤ i) : H.length = n := by
  have e := h.ok.len (up_nodup n)
  rw [← e]
  unfold thoseL
  rw [List.filter_eq_self.2, up_len]
  intro k hk
  have := mem_up.1 hk
  have hm := h.all k.toNat (by omega) (by omega)
  rw [show ((k.toNat : Nat) : Int) = k by omega] at hm
  simpa using hm
end Go.Proofs.Ytpnpnjfflblkpaa

/- Sorting that keeps the order of what is alike: plain laws: exchanges, rotations, merges of sorted lists of points. -/
import Derived.Test.YtpnpnjfflblkpaaPtC
import Derived.Sort.WalkA
import Derived.Shelf.SlSortCmp.Insertion
namespace Go.Proofs.Ytpnpnjfflblkpaa
open Go.RowKit Go.Sort

instance : Inhabited Pt := ⟨⟨⟨#[]⟩, 0, 0, 0, 0, 0⟩⟩
/-- Not behind. -/
def leB (a b : Pt) : Prop := ¬ bef b a
instance (a b : Pt) : Decidable (leB a b) := by unfold leB; exact inferInstance
theorem bef_ne {a b : Pt} (h : bef a b) : ¬ (a.s = b.s ∧ a.t = b.t) := fun e => by
  unfold bef at h
  rcases h with h | ⟨_, h⟩
  · rw [e.1] at h; exact sb_irr _ h
  · omega
theorem bef_le {a b : Pt} (h : bef a b) : leB a b := bef_asymm h
theorem bef_at {a b c : Pt} (h : bef a b) (e : b.s = c.s ∧ b.t = c.t) : bef a c := by unfold bef at *; rw [← e.1, ← e.2]; exact h
theorem at_bef {a b c : Pt} (e : a.s = b.s ∧ a.t = b.t) (h : bef b c) : bef a c := by unfold bef at *; rw [e.1, e.2]; exact h
theorem leB_cases {a b : Pt} (h : leB a b) : bef a b ∨ (a.s = b.s ∧ a.t = b.t) := by
  rcases bef_tri a b with z | z | z
  · exact .inl z
  · exact .inr z
  · exact absurd z h
theorem bef_leB {a b c : Pt} (h : bef a b) (k : leB b c) : bef a c := by
  rcases leB_cases k with z | z
  · exact bef_trans h z
  · exact bef_at h z
theorem leB_bef {a b c : Pt} (h : leB a b) (k : bef b c) : bef a c := by
  rcases leB_cases h with z | z
  · exact bef_trans z k
  · exact at_bef z k
theorem leB_trans {a b c : Pt} (h : leB a b) (k : leB b c) : leB a c := fun z => h (leB_bef k z)
theorem leB_refl (a : Pt) : leB a a := bef_irr a
def SrtB (l : List Pt) : Prop := l.Pairwise leB
/-- Those of a place. -/
def atK (s : ByteArray) (t : Int) (l : List Pt) : List Pt := l.filter fun x => decide (x.s = s ∧ x.t = t)
theorem atK_app (s : ByteArray) (t : Int) (a b : List Pt) : atK s t (a ++ b) = atK s t a ++ atK s t b := List.filter_append ..
theorem atK_nil {s : ByteArray} {t : Int} {l : List Pt} (h : ∀ x ∈ l, ¬ (x.s = s ∧ x.t = t)) : atK s t l = [] := List.filter_eq_nil_iff.2 fun x hx => by simpa using h x hx
/-- The same ones, and those of a place in the same order. -/
structure Stab (l T : List Pt) : Prop where
  perm : T.Perm l
  key : ∀ s t, atK s t T = atK s t l
theorem Stab.rfl' {l : List Pt} : Stab l l := ⟨.refl _, fun _ _ => rfl⟩
theorem Stab.tr {a b c : List Pt} (h : Stab a b) (k : Stab b c) : Stab a c := ⟨k.perm.trans h.perm, fun s t => (k.key s t).trans (h.key s t)⟩
theorem Stab.app {a b c d : List Pt} (h : Stab a b) (k : Stab c d) : Stab (a ++ c) (b ++ d) := ⟨h.perm.append k.perm, fun s t => by rw [atK_app, atK_app, h.key, k.key]⟩
theorem Stab.len {a b : List Pt} (h : Stab a b) : b.length = a.length := h.perm.length_eq
/-- Two runs that have no place in common may change places. -/
theorem Stab.swap {a b : List Pt} (h : ∀ x ∈ a, ∀ y ∈ b, ¬ (x.s = y.s ∧ x.t = y.t)) : Stab (a ++ b) (b ++ a) := by
  refine ⟨List.perm_append_comm, fun s t => ?_⟩
  rw [atK_app, atK_app]
  by_cases hb : atK s t b = []
  · rw [hb]; simp
  · have : atK s t a = [] := atK_nil fun x hx e => hb (atK_nil fun y hy e2 => h x hx y hy ⟨e.1.trans e2.1.symm, e.2.trans e2.2.symm⟩)
    rw [this]; simp
theorem merge_parts {U1 U2 V1 V2 T1 T2 : List Pt} (hU : SrtB (U1 ++ U2)) (hV : SrtB (V1 ++ V2)) (h12 : ∀ v ∈ V1, ∀ u ∈ U2, bef v u) (h21 : ∀ u ∈ U1, ∀ v ∈ V2, leB u v)
    (s1 : SrtB T1) (k1 : Stab (U1 ++ V1) T1) (s2 : SrtB T2) (k2 : Stab (U2 ++ V2) T2) : SrtB (T1 ++ T2) ∧ Stab ((U1 ++ U2) ++ (V1 ++ V2)) (T1 ++ T2) := by
  refine ⟨?_, ?_⟩
  · refine List.pairwise_append.2 ⟨s1, s2, fun x hx y hy => ?_⟩
    have hx' := k1.perm.mem_iff.1 hx
    have hy' := k2.perm.mem_iff.1 hy
    rcases List.mem_append.1 hx' with hx' | hx' <;> rcases List.mem_append.1 hy' with hy' | hy'
    · exact (List.pairwise_append.1 hU).2.2 x hx' y hy'
    · exact h21 x hx' y hy'
    · exact bef_le (h12 x hx' y hy')
    · exact (List.pairwise_append.1 hV).2.2 x hx' y hy'
  · have h : Stab ((U1 ++ U2) ++ (V1 ++ V2)) ((U1 ++ V1) ++ (U2 ++ V2)) := by
      have hs : Stab (U2 ++ V1) (V1 ++ U2) := Stab.swap fun x hx y hy e => bef_ne (h12 y hy x hx) ⟨e.1.symm, e.2.symm⟩
      have := (Stab.rfl' (l := U1)).app (hs.app (Stab.rfl' (l := V2)))
      simpa [List.append_assoc] using this
    exact h.tr (k1.app k2)
theorem h12_of {U2 V1 : List Pt} (hU : SrtB U2) (hV : SrtB V1) (hb : ∀ (h1 : 0 < U2.length) (h2 : V1.length - 1 < V1.length), bef V1[V1.length - 1] U2[0]) : ∀ v ∈ V1, ∀ u ∈ U2, bef v u := fun v hv u hu => by
  obtain ⟨i, hi, rfl⟩ := List.getElem_of_mem hv
  obtain ⟨j, hj, rfl⟩ := List.getElem_of_mem hu
  have h := hb (by omega) (by omega)
  have h1 : leB V1[i] V1[V1.length - 1] := by
    by_cases e : i = V1.length - 1
    · subst e; exact leB_refl _
    · exact List.pairwise_iff_getElem.1 hV i (V1.length - 1) hi (by omega) (by omega)
  have h2 : leB U2[0] U2[j] := by
    by_cases e : j = 0
    · subst e; exact leB_refl _
    · exact List.pairwise_iff_getElem.1 hU 0 j (by omega) hj (by omega)
  exact bef_leB (leB_bef h1 h) h2
theorem h21_of {U1 V2 : List Pt} (hU : SrtB U1) (hV : SrtB V2) (hb : ∀ (h1 : U1.length - 1 < U1.length) (h2 : 0 < V2.length), leB U1[U1.length - 1] V2[0]) : ∀ u ∈ U1, ∀ v ∈ V2, leB u v := fun u hu v hv => by
  obtain ⟨i, hi, rfl⟩ := List.getElem_of_mem hu
  obtain ⟨j, hj, rfl⟩ := List.getElem_of_mem hv
  have h := hb (by omega) (by omega)
  have h1 : leB U1[i] U1[U1.length - 1] := by
    by_cases e : i = U1.length - 1
    · subst e; exact leB_refl _
    · exact List.pairwise_iff_getElem.1 hU i (U1.length - 1) hi (by omega) (by omega)
  have h2 : leB V2[0] V2[j] := by
    by_cases e : j = 0
    · subst e; exact leB_refl _
    · exact List.pairwise_iff_getElem.1 hV 0 j (by omega) hj (by omega)
  exact leB_trans (leB_trans h1 h) h2
/-- An array's element, by its list. -/
theorem arr_get {d : Array Pt} {l : List Pt} (h : d.toList = l) {i : Nat} (hi : i < l.length) : d[i]! = l[i] := by
  subst h
  simp at hi
  simp [hi]
theorem arr_mid {d : Array Pt} {L R : List Pt} {x : Pt} (h : d.toList = L ++ x :: R) {i : Nat} (hi : i = L.length) : d[i]! = x := by
  subst hi
  rw [arr_get h (by simp)]; simp
theorem swp_list {d : Array Pt} {L M R : List Pt} {x y : Pt} (h : d.toList = L ++ x :: (M ++ y :: R)) {i j : Nat} (hi : i = L.length) (hj : j = L.length + 1 + M.length) : (swp d i j).toList = L ++ y :: (M ++ x :: R) := by
  have e1 : d[i]! = x := arr_mid h hi
  have e2 : d[j]! = y := arr_mid (L := L ++ x :: M) (R := R) (by rw [h]; simp) (by rw [hj]; simp; omega)
  unfold swp
  rw [e1, e2, Array.toList_setIfInBounds, Array.toList_setIfInBounds, h, hi, hj]
  rw [List.set_append_right _ _ (Nat.le_refl _), Nat.sub_self, List.set_cons_zero, List.set_append_right _ _ (by omega), show L.length + 1 + M.length - L.length = M.length + 1 by omega, List.set_cons_succ, List.set_append_right _ _ (Nat.le_refl _), Nat.sub_self, List.set_cons_zero]
theorem swp_comm (d : Array Pt) (i j : Nat) (h : i ≠ j) : swp d i j = swp d j i := by
  unfold swp
  exact Array.setIfInBounds_comm _ _ h
theorem swr_step {L A M B R : List Pt} {dk : Array Pt} {n k i j : Nat} (hn : A.length = n) (hB : B.length = n) (hk : k < n) (h : dk.toList = L ++ (B.take k ++ A.drop k) ++ M ++ (A.take k ++ B.drop k) ++ R) (hi : i = L.length + k) (hj : j = L.length + n + M.length + k) :
    (swp dk i j).toList = L ++ (B.take (k + 1) ++ A.drop (k + 1)) ++ M ++ (A.take (k + 1) ++ B.drop (k + 1)) ++ R := by
  have ea : A.drop k = A[k] :: A.drop (k + 1) := List.drop_eq_getElem_cons (by omega)
  have eb : B.drop k = B[k] :: B.drop (k + 1) := List.drop_eq_getElem_cons (by omega)
  have ta : A.take (k + 1) = A.take k ++ [A[k]] := List.take_succ_eq_append_getElem (by omega)
  have tb : B.take (k + 1) = B.take k ++ [B[k]] := List.take_succ_eq_append_getElem (by omega)
  have h' : dk.toList = (L ++ B.take k) ++ A[k] :: ((A.drop (k + 1) ++ M ++ A.take k) ++ B[k] :: (B.drop (k + 1) ++ R)) := by rw [h, ea, eb]; simp only [List.append_assoc, List.cons_append, List.nil_append]
  rw [swp_list h' (by rw [hi]; simp; omega) (by rw [hj]; simp; omega), ta, tb]
  simp only [List.append_assoc, List.cons_append, List.nil_append]
end Go.Proofs.Ytpnpnjfflblkpaa

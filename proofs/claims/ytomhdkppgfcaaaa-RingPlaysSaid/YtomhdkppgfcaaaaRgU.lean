/- The ring: plain laws of the reference's points. No program in sight. -/
import Derived.Test.YtomhdkppgfcaaaaRgS
namespace Go.Proofs.Ytomhdkppgfcaaaa
open Go.RowKit

theorem leP_total (x y : Pt) : leP x y ∨ leP y x := by unfold leP; omega
theorem leP_trans {x y z : Pt} (h1 : leP x y) (h2 : leP y z) : leP x z := by unfold leP at *; omega
/-- How many points are ahead of one that is put in. -/
def insAt (qs : List Pt) (x : Pt) : Nat := (qs.takeWhile fun y => decide (leP y x)).length
def ins (qs : List Pt) (x : Pt) : List Pt := qs.take (insAt qs x) ++ x :: qs.drop (insAt qs x)
theorem insAt_le (qs : List Pt) (x : Pt) : insAt qs x ≤ qs.length := (List.takeWhile_sublist _).length_le
theorem insAt_lt {x : Pt} : ∀ {qs : List Pt} {j : Nat} (hj : j < qs.length), j < insAt qs x → leP qs[j] x
  | [], _, hj, _ => by simp at hj
  | y :: r, 0, _, hl => by
    unfold insAt at hl
    by_cases h : leP y x
    · exact h
    · rw [List.takeWhile_cons_of_neg (by simpa using h)] at hl; simp at hl
  | y :: r, j + 1, hj, hl => by
    unfold insAt at hl
    by_cases h : leP y x
    · rw [List.takeWhile_cons_of_pos (by simpa using h)] at hl
      exact insAt_lt (qs := r) (by simpa using hj) (by simpa [insAt] using hl)
    · rw [List.takeWhile_cons_of_neg (by simpa using h)] at hl; simp at hl
theorem insAt_stop {x : Pt} : ∀ {qs : List Pt} (h : insAt qs x < qs.length), ¬ leP qs[insAt qs x] x
  | [], h => by simp at h
  | y :: r, h => by
    by_cases hy : leP y x
    · have e : insAt (y :: r) x = insAt r x + 1 := by unfold insAt; rw [List.takeWhile_cons_of_pos (by simpa using hy)]; rfl
      have h' : insAt r x < r.length := by rw [e] at h; simpa using h
      have := insAt_stop (x := x) h'
      intro hle; apply this
      simpa [e] using hle
    · have e : insAt (y :: r) x = 0 := by unfold insAt; rw [List.takeWhile_cons_of_neg (by simpa using hy)]; rfl
      intro hle; apply hy
      simpa [e] using hle
theorem insAt_is {qs : List Pt} {x : Pt} {k : Nat} (hk : k ≤ qs.length) (h1 : ∀ j (hj : j < qs.length), j < k → leP qs[j] x) (h2 : ∀ h : k < qs.length, ¬ leP qs[k] x) : insAt qs x = k := by
  rcases Nat.lt_trichotomy (insAt qs x) k with h | h | h
  · exact absurd (h1 _ (by omega) h) (insAt_stop (by omega))
  · exact h
  · exact absurd (insAt_lt (by have := insAt_le qs x; omega) h) (h2 (by have := insAt_le qs x; omega))
theorem ins_perm (qs : List Pt) (x : Pt) : (ins qs x).Perm (qs ++ [x]) := by
  unfold ins
  have h : (qs.take (insAt qs x) ++ x :: qs.drop (insAt qs x)).Perm (x :: (qs.take (insAt qs x) ++ qs.drop (insAt qs x))) := List.perm_middle
  rw [List.take_append_drop] at h
  exact h.trans (List.perm_append_comm (l₁ := [x]) (l₂ := qs))
theorem ins_sorted {qs : List Pt} {x : Pt} (hs : qs.Pairwise leP) : (ins qs x).Pairwise leP := by
  unfold ins
  have hl : ∀ y ∈ qs.take (insAt qs x), leP y x := fun y hy => by
    obtain ⟨j, hj, rfl⟩ := List.getElem_of_mem hy
    rw [List.getElem_take]
    rw [List.length_take] at hj
    exact insAt_lt (by omega) (by omega)
  have hr : ∀ y ∈ qs.drop (insAt qs x), leP x y := fun y hy => by
    obtain ⟨j, hj, rfl⟩ := List.getElem_of_mem hy
    rw [List.getElem_drop]
    rw [List.length_drop] at hj
    have h0 : insAt qs x < qs.length := by omega
    have h1 : leP x qs[insAt qs x] := (leP_total _ _).resolve_right (insAt_stop h0)
    by_cases e : j = 0
    · subst e; exact h1
    · exact leP_trans h1 (List.pairwise_iff_getElem.1 hs _ _ h0 (by omega) (by omega))
  rw [List.pairwise_append]
  refine ⟨hs.sublist (List.take_sublist _ _), ?_, ?_⟩
  · rw [List.pairwise_cons]
    exact ⟨hr, hs.sublist (List.drop_sublist _ _)⟩
  · intro a ha b hb
    rcases List.mem_cons.1 hb with rfl | hb
    · exact hl a ha
    · exact leP_trans (hl a ha) (hr b hb)
theorem ins_len (qs : List Pt) (x : Pt) : (ins qs x).length = qs.length + 1 := by rw [(ins_perm qs x).length_eq]; simp
/-- Sorted, and the points of some: that is what they are. -/
def PtsOf (ns : List Int) (j k : Nat) (qs : List Pt) : Prop := qs.Perm (rawPts (ns.take j) ++ ptsOf1 (ns.getD j 0) k) ∧ qs.Pairwise leP
theorem ptsOf_zero (ns : List Int) : PtsOf ns 0 0 [] := ⟨by simp [rawPts, ptsOf1], List.Pairwise.nil⟩
theorem ptsOf_step {ns : List Int} {j k : Nat} {qs : List Pt} (h : PtsOf ns j k qs) : PtsOf ns j (k + 1) (ins qs (ptAt (ns.getD j 0) k)) := by
  refine ⟨?_, ins_sorted h.2⟩
  rw [ptsOf1_succ, ← List.append_assoc]
  exact (ins_perm _ _).trans (h.1.append_right _)
theorem ptsOf_next {ns : List Int} {j : Nat} {qs : List Pt} (h : PtsOf ns j 8 qs) (hj : j < ns.length) : PtsOf ns (j + 1) 0 qs := by
  refine ⟨?_, h.2⟩
  have e : rawPts (ns.take (j + 1)) ++ ptsOf1 (ns.getD (j + 1) 0) 0 = rawPts (ns.take j) ++ ptsOf1 (ns.getD j 0) 8 := by
    rw [List.take_succ_eq_append_getElem hj, rawPts_snoc]
    simp [ptsOf1, List.getD, hj]
  rw [e]; exact h.1
theorem ptsOf_all {ns : List Int} {qs : List Pt} (h : PtsOf ns ns.length 0 qs) : IsPts ns qs := by
  refine ⟨?_, h.2⟩
  have := h.1
  rwa [List.take_length, show ptsOf1 (ns.getD ns.length 0) 0 = [] from rfl, List.append_nil] at this
theorem ptsOf_len {ns : List Int} {j k : Nat} {qs : List Pt} (h : PtsOf ns j k qs) (hj : j ≤ ns.length) : qs.length = j * 8 + k := by
  rw [h.1.length_eq, List.length_append, rawPts_len, List.length_take, Nat.min_eq_left hj]; simp [ptsOf1]
end Go.Proofs.Ytomhdkppgfcaaaa

/- The ring: plain laws of RingPoints. No program in sight. -/
import Derived.Test.YtomhdkppgfcaaaaRgQ
namespace Go.Proofs.Ytomhdkppgfcaaaa
open Go.RowKit

theorem hashS_nn (s : ByteArray) : 0 ≤ hashS s := by
  unfold hashS hfin
  generalize hsh (IntKind.u64.wrap (hsh (hAt s s.size) * 18397679294719823053)) * 14181476777654086739 = x
  unfold hsh bits
  exact Int.natCast_nonneg _
theorem pts_nn {l : List Int} {ps : List Pt} (hp : IsPts (nodesOf l) ps) {x : Pt} (hx : x ∈ ps) : 0 ≤ x.1 ∧ x.2 ∈ nodesOf l := by
  have h := hp.1.mem_iff.1 hx
  unfold rawPts ptsOf1 at h
  rw [List.mem_flatMap] at h
  obtain ⟨n, hn, hx⟩ := h
  rw [List.mem_map] at hx
  obtain ⟨k, _, rfl⟩ := hx
  exact ⟨hashS_nn _, hn⟩
theorem count_one {n m : Int} (k : Nat) : (ptsOf1 n k).countP (fun x => decide (x.2 = m)) = if n = m then k else 0 := by
  unfold ptsOf1
  rw [List.countP_map]
  by_cases h : n = m
  · rw [if_pos h, List.countP_eq_length.2 (by intro a _; simp [ptAt, h]), List.length_range]
  · rw [if_neg h, List.countP_eq_zero.2 (by intro a _; simp [ptAt, h])]
theorem count_raw : ∀ {ns : List Int} (_ : ns.Nodup) (m : Int), m ∈ ns → (rawPts ns).countP (fun x => decide (x.2 = m)) = 8
  | [], _, m, h => by simp at h
  | n :: r, hd, m, h => by
    have hd' := List.nodup_cons.1 hd
    have e : rawPts (n :: r) = ptsOf1 n 8 ++ rawPts r := by simp [rawPts]
    rw [e, List.countP_append, count_one]
    by_cases hm : n = m
    · subst hm
      rw [if_pos rfl, List.countP_eq_zero.2]
      intro x hx
      unfold rawPts ptsOf1 at hx
      rw [List.mem_flatMap] at hx
      obtain ⟨k, hk, hx⟩ := hx
      rw [List.mem_map] at hx
      obtain ⟨j, _, rfl⟩ := hx
      have : k ≠ n := fun e => hd'.1 (e ▸ hk)
      simp [ptAt, this]
    · rw [if_neg hm, count_raw hd'.2 m (by rcases List.mem_cons.1 h with h | h; exact absurd h.symm hm; exact h)]
theorem count_all {l : List Int} {ps : List Pt} (hp : IsPts (nodesOf l) ps) {m : Int} (hm : m ∈ nodesOf l) : ps.countP (fun x => decide (x.2 = m)) = 8 := by
  rw [hp.1.countP_eq]
  exact count_raw (nodup_nodesOf l) m hm
theorem rises {ps : List Pt} (hs : ps.Pairwise leP) {j : Nat} (h : j + 1 < ps.length) : (ps[j]).1 ≤ (ps[j + 1]).1 := by
  have := List.pairwise_iff_getElem.1 hs j (j + 1) (by omega) h (by omega)
  unfold leP at this; omega
theorem fold_head (l : List Int) (x : Int) : (x :: l).foldl (prefStep 1) [] = [x] := by
  rw [List.foldl_cons]
  have e : prefStep 1 [] x = [x] := by unfold prefStep; simp
  rw [e]
  exact fold_done l [x] (by simp)
/-- The node behind a key: that of the point that is not ahead of it, or of the first. -/
def behind (ps : List Pt) (h : Int) : Int := if lo ps h < ps.length then (atP ps (lo ps h)).2 else (atP ps 0).2
theorem atP_get {ps : List Pt} {j : Nat} (h : j < ps.length) : atP ps j = ps[j] := by unfold atP; rw [if_pos (by omega)]; simp [List.getD, h]
theorem atP_all {ps : List Pt} {i : Int} (h : (ps.length : Int) ≤ i) : atP ps i = (0, -1) := by
  unfold atP
  rw [if_pos (by omega)]
  simp [List.getD, List.getElem?_eq_none (show ps.length ≤ i.toNat by omega)]
theorem prefer_one {ps : List Pt} (h : Int) (hn : 0 < ps.length) : prefer ps h 1 = [behind ps h] := by
  have hL := lo_le ps h
  unfold prefer prefTo
  rw [List.take_of_length_le (by rw [rot_len ps hL]; exact Nat.le_refl _)]
  unfold behind
  by_cases hl : lo ps h < ps.length
  · rw [if_pos hl, atP_get hl]
    unfold rot
    rw [List.drop_eq_getElem_cons hl, List.cons_append, List.map_cons, fold_head]
  · rw [if_neg hl]
    have e : lo ps h = ps.length := by omega
    have e0 : atP ps 0 = ps[0] := atP_get (j := 0) hn
    unfold rot
    rw [e, e0]
    match ps, hn with
    | x :: r, _ => simp only [List.drop_length, List.nil_append, List.take_length, List.map_cons, fold_head]; rfl
/-- The first node behind a key, of the first j points; -1: none is. -/
def firstTo (ps : List Pt) (h : Int) (j : Nat) : Int := if lo ps h < j then (atP ps (lo ps h)).2 else -1
theorem firstTo_zero (ps : List Pt) (h : Int) : firstTo ps h 0 = -1 := by simp [firstTo]
theorem firstTo_neg {l : List Int} {ps : List Pt} (hp : IsPts (nodesOf l) ps) {h : Int} {j : Nat} (hj : j ≤ ps.length) : (firstTo ps h j < 0 ∧ j ≤ lo ps h) ∨ (¬ firstTo ps h j < 0 ∧ lo ps h < j) := by
  unfold firstTo
  by_cases hl : lo ps h < j
  · rw [if_pos hl, atP_get (by omega)]
    have := (mem_nodesOf.1 (pts_nn hp (List.getElem_mem (show lo ps h < ps.length by omega))).2).2.1
    right; omega
  · rw [if_neg hl]; left; omega
theorem firstTo_stay {ps : List Pt} {h : Int} {j : Nat} (hl : lo ps h < j) : firstTo ps h (j + 1) = firstTo ps h j := by
  unfold firstTo; rw [if_pos hl, if_pos (by omega)]
theorem firstTo_hit {ps : List Pt} (hs : ps.Pairwise leP) {h : Int} {j : Nat} (hj : j < ps.length) (hl : j ≤ lo ps h) (hh : h ≤ (ps[j]).1) : firstTo ps h (j + 1) = (ps[j]).2 := by
  have e : lo ps h = j := by
    rcases Nat.lt_or_ge j (lo ps h) with h1 | h1
    · have := lo_lt hj h1; omega
    · omega
  unfold firstTo; rw [if_pos (by omega), e, atP_get hj]
theorem firstTo_miss {ps : List Pt} (hs : ps.Pairwise leP) {h : Int} {j : Nat} (hj : j < ps.length) (hl : j ≤ lo ps h) (hh : ¬ h ≤ (ps[j]).1) : firstTo ps h (j + 1) = -1 := by
  have e : j < lo ps h := by
    rcases Nat.lt_or_ge j (lo ps h) with h1 | h1
    · exact h1
    · have := lo_ge hs hj h1; omega
  unfold firstTo; rw [if_neg (by omega)]
/-- How many of the first j points are a node's. -/
def manyTo (ps : List Pt) (j : Nat) (m : Int) : Int := ((ps.take j).countP fun x => decide (x.2 = m) : Nat)
theorem manyTo_zero (ps : List Pt) (m : Int) : manyTo ps 0 m = 0 := by simp [manyTo]
theorem manyTo_succ {ps : List Pt} {j : Nat} (h : j < ps.length) (m : Int) : manyTo ps (j + 1) m = manyTo ps j m + if (ps[j]).2 = m then 1 else 0 := by
  unfold manyTo
  rw [List.take_succ_eq_append_getElem h, List.countP_append, List.countP_singleton]
  by_cases hm : (ps[j]).2 = m <;> simp [hm]
theorem manyTo_le (ps : List Pt) (j : Nat) (m : Int) : 0 ≤ manyTo ps j m ∧ manyTo ps j m ≤ j := by
  unfold manyTo
  have := List.countP_le_length (p := fun x : Pt => decide (x.2 = m)) (l := ps.take j)
  have h2 : (ps.take j).length ≤ j := by rw [List.length_take]; omega
  omega
theorem manyTo_all {l : List Int} {ps : List Pt} (hp : IsPts (nodesOf l) ps) {m : Int} (hm : m ∈ nodesOf l) : manyTo ps ps.length m = 8 := by
  unfold manyTo; rw [List.take_length, count_all hp hm]; rfl
/-- What was seen last. -/
def lastTo (ps : List Pt) (j : Nat) : Int := if 0 < j then (atP ps ((j - 1 : Nat) : Int)).1 else 0
theorem lastTo_le {l : List Int} {ps : List Pt} (hp : IsPts (nodesOf l) ps) {j : Nat} (hj : j < ps.length) : lastTo ps j ≤ (ps[j]).1 := by
  unfold lastTo
  by_cases h : 0 < j
  · obtain ⟨k, rfl⟩ : ∃ k, j = k + 1 := ⟨j - 1, by omega⟩
    rw [if_pos h, Nat.add_sub_cancel, atP_get (by omega)]
    exact rises hp.2 hj
  · rw [if_neg h]; exact (pts_nn hp (List.getElem_mem hj)).1
theorem lastTo_succ {ps : List Pt} {j : Nat} (hj : j < ps.length) : lastTo ps (j + 1) = (ps[j]).1 := by
  unfold lastTo; rw [if_pos (by omega), Nat.add_sub_cancel, atP_get hj]
end Go.Proofs.Ytomhdkppgfcaaaa

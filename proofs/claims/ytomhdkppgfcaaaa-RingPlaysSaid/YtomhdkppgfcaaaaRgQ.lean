/- The ring: plain laws of RingOrder. -/
import Derived.Test.YtomhdkppgfcaaaaRgL
import Derived.Test.YtomhdkppgfcaaaaRgP
namespace Go.Proofs.Ytomhdkppgfcaaaa

theorem nodesOf_mem {l1 l2 : List Int} (h : ∀ x, x ∈ l1 ↔ x ∈ l2) : nodesOf l1 = nodesOf l2 := by
  unfold nodesOf nodesTo
  apply List.filter_congr
  intro x _
  simp [h x]
theorem mem_nodesOf {l : List Int} {x : Int} : x ∈ nodesOf l ↔ x ∈ l ∧ 0 ≤ x ∧ x < 16 := by
  unfold nodesOf nodesTo
  rw [List.mem_filter, List.mem_map]
  constructor
  · rintro ⟨⟨n, hn, rfl⟩, h⟩
    have := List.mem_range.1 hn
    exact ⟨by simpa using h, Int.natCast_nonneg _, by show (n : Int) < 16; omega⟩
  · rintro ⟨h, h0, h1⟩
    exact ⟨⟨x.toNat, List.mem_range.2 (by omega), Int.toNat_of_nonneg h0⟩, by simpa using h⟩
theorem nodup_nodesOf (l : List Int) : (nodesOf l).Nodup := by
  unfold nodesOf nodesTo
  refine List.Pairwise.filter _ ?_
  refine List.Pairwise.map _ (fun a b h => ?_) List.nodup_range
  intro e
  exact h (Int.ofNat.inj e)
theorem mem_rot {ps : List Pt} {L : Nat} {x : Pt} : x ∈ rot ps L ↔ x ∈ ps := by
  unfold rot
  rw [List.mem_append, Or.comm, ← List.mem_append, List.take_append_drop]
/-- Each node of the ring is met. -/
theorem mem_full {ns : List Int} {ps : List Pt} (hp : IsPts ns ps) (h : Int) (x : Int) : x ∈ dd ((rot ps (lo ps h)).map (·.2)) ↔ x ∈ ns := by
  rw [mem_dd, List.mem_map]
  constructor
  · rintro ⟨y, hy, rfl⟩
    have h1 := hp.1.mem_iff.1 (mem_rot.1 hy)
    unfold rawPts at h1
    obtain ⟨n, hn, h2⟩ := List.mem_flatMap.1 h1
    simp [ptsOf1, ptAt] at h2
    obtain ⟨j, _, rfl⟩ := h2
    exact hn
  · intro hx
    refine ⟨ptAt x 0, mem_rot.2 (hp.1.mem_iff.2 ?_), rfl⟩
    unfold rawPts
    exact List.mem_flatMap.2 ⟨x, hx, by simp [ptsOf1]; exact ⟨0, by decide, rfl⟩⟩
theorem full_len {ns : List Int} {ps : List Pt} (hp : IsPts ns ps) (hd : ns.Nodup) (h : Int) : (dd ((rot ps (lo ps h)).map (·.2))).length = ns.length := by
  apply List.Perm.length_eq
  exact (List.perm_ext_iff_of_nodup (nodup_dd _) hd).2 (mem_full hp h)
/-- With most = 16 all are met. -/
theorem prefer_all {l : List Int} {ps : List Pt} (hp : IsPts (nodesOf l) ps) (h : Int) : prefer ps h 16 = dd ((rot ps (lo ps h)).map (·.2)) := by
  rw [prefer_dd]
  apply List.take_of_length_le
  rw [full_len hp (nodup_nodesOf l)]
  exact nodesTo_len l 16
theorem nodes_all {l : List Int} {ps : List Pt} (hp : IsPts (nodesOf l) ps) (h : Int) : nodesOf (prefer ps h 16) = nodesOf l := by
  unfold nodesOf nodesTo
  apply List.filter_congr
  intro x hx
  obtain ⟨n, hn, rfl⟩ := List.mem_map.1 hx
  have := List.mem_range.1 hn
  rw [prefer_all hp]
  simp only [mem_full hp, mem_nodesOf]
  simp
  omega
theorem begins {l : List Int} {ps : List Pt} (hp : IsPts (nodesOf l) ps) (h most : Int) : prefer ps h most = (prefer ps h 16).take most.toNat := by
  rw [prefer_all hp, prefer_dd]
end Go.Proofs.Ytomhdkppgfcaaaa

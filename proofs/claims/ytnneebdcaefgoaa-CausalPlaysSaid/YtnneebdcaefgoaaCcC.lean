/- The two buffers of package causal and of the reference, plain. -/
import Derived.Test.YtnneebdcaefgoaaCcB
namespace Go.Proofs.Ytnneebdcaefgoaa
open Go.RowKit Go.Maps

theorem findI_nn {l : List Rec} {s q : Int} : 0 ≤ findI l s q ↔ (keyF l s q).isSome = true := by
  unfold findI keyF
  cases h : l.findIdx? (fun r => decide (r.st = s ∧ r.q = q)) with
  | none =>
    have h1 : (l.find? fun r => decide (r.st = s ∧ r.q = q)) = none := by
      rw [List.findIdx?_eq_none_iff] at h
      rw [List.find?_eq_none]
      intro x hx z
      have := h x hx
      rw [this] at z; cases z
    rw [h1]
    simp
  | some i =>
    have h1 : (l.find? fun r => decide (r.st = s ∧ r.q = q)).isSome = true := by
      rw [List.findIdx?_eq_some_iff_getElem] at h
      obtain ⟨hi, hp, _⟩ := h
      rw [List.find?_isSome]
      exact ⟨l[i], List.getElem_mem hi, hp⟩
    rw [h1]
    simp
/-- The package's buffer holds what the reference's list has. -/
structure Pair (B : Buf) (most : Int) (out : List Int) (l : List Rec) : Prop where
  most : B.most = most
  out : B.out = out
  n : B.n = l.length
  f : ∀ s q, B.f s q = keyF l s q
  uniq : l.Pairwise fun a b => ¬ (a.st = b.st ∧ a.q = b.q)
theorem Pair.off {B : Buf} {most : Int} {out : List Int} {l : List Rec} (h : Pair B most out l) (r : Rec) : offN B r = offR most out l r := by
  unfold offN offR
  rw [h.most, h.out, h.n, h.f]
  by_cases hR : RecOk r
  · rw [if_neg (fun z : ¬ RecOk r => z hR), if_neg (fun z : ¬ RecOk r => z hR)]
    by_cases h1 : (keyF l r.st r.q).isSome = true ∨ r.q ≤ atV out r.st
    · have h2 : r.q ≤ atV out r.st ∨ 0 ≤ findI l r.st r.q := h1.elim (fun z => .inr (findI_nn.2 z)) .inl
      rw [if_pos h1, if_pos h2]
    · have h2 : ¬ (r.q ≤ atV out r.st ∨ 0 ≤ findI l r.st r.q) := fun z => h1 (z.elim .inr (fun y => .inl (findI_nn.1 y)))
      rw [if_neg h1, if_neg h2]
  · rw [if_pos hR, if_pos hR]
theorem offN_zero {B : Buf} {r : Rec} (h : offN B r = 0) : B.f r.st r.q = none := by
  unfold offN at h
  split at h
  · cases h
  · split at h
    · cases h
    · rename_i h1
      cases e : B.f r.st r.q with
      | none => rfl
      | some x => exact absurd (.inl (by rw [e]; rfl)) h1
theorem Pair.offer {B : Buf} {most : Int} {out : List Int} {l : List Rec} (h : Pair B most out l) (r : Rec) : Pair (offB B r) most out (if offR most out l r = 0 then l ++ [r] else l) := by
  unfold offB
  rw [h.off r]
  by_cases h0 : offR most out l r = 0
  · rw [if_pos h0, if_pos h0]
    have h1 : keyF l r.st r.q = none := by rw [← h.f]; exact offN_zero ((h.off r).trans h0)
    refine ⟨h.most, h.out, ?_, fun s q => ?_, ?_⟩
    · show B.n + 1 = _
      rw [h.n]; simp
    · rw [putB_f]
      unfold keyF
      rw [List.find?_append]
      by_cases e : s = r.st ∧ q = r.q
      · obtain ⟨rfl, rfl⟩ := e
        unfold keyF at h1
        rw [if_pos ⟨rfl, rfl⟩, h1]
        simp
      · rw [if_neg e, h.f]
        have e2 : ([r].find? fun r => decide (r.st = s ∧ r.q = q)) = none := by
          simp only [List.find?_cons, List.find?_nil]
          rw [decide_eq_false (fun z => e ⟨z.1.symm, z.2.symm⟩)]
        rw [e2, Option.or_none]
        rfl
    · rw [List.pairwise_append]
      refine ⟨h.uniq, List.pairwise_singleton _ _, fun a ha b hb z => ?_⟩
      rw [List.mem_singleton.1 hb] at z
      unfold keyF at h1
      have := List.find?_eq_none.1 h1 a ha
      exact this (decide_eq_true z)
  · rw [if_neg h0, if_neg h0]
    exact h
/-- What the reference's Next takes, at a site. -/
def rnextOf (out : List Int) (l : List Rec) (k : Int) : Option Nat :=
  match l.findIdx? (fun r => decide (r.st = k ∧ r.q = atV out k + 1)) with
  | some i => match l[i]? with
    | some r => if Due out r then some i else none
    | none => none
  | none => none
theorem find_idx {l : List Rec} {p : Rec → Bool} {i : Nat} (h : l.findIdx? p = some i) : ∃ hi : i < l.length, l.find? p = some l[i] := by
  rw [List.findIdx?_eq_some_iff_getElem] at h
  obtain ⟨hi, hp, hpre⟩ := h
  refine ⟨hi, ?_⟩
  rw [List.find?_eq_some_iff_getElem]
  exact ⟨hp, i, hi, rfl, fun j hj => by simpa using hpre j hj⟩
theorem find_idx_none {l : List Rec} {p : Rec → Bool} (h : l.findIdx? p = none) : l.find? p = none := by
  rw [List.findIdx?_eq_none_iff] at h
  rw [List.find?_eq_none]
  intro x hx z
  rw [h x hx] at z; cases z
theorem Pair.next {B : Buf} {most : Int} {out : List Int} {l : List Rec} (h : Pair B most out l) (k : Int) :
    (rnextOf out l k = none ∧ nextOf B k = none) ∨ ∃ (i : Nat) (hi : i < l.length), rnextOf out l k = some i ∧ nextOf B k = some l[i] ∧ l[i].st = k ∧ l[i].q = atV out k + 1 ∧ Due out l[i] := by
  unfold rnextOf nextOf
  rw [h.out, h.f]
  unfold keyF
  cases hx : l.findIdx? (fun r => decide (r.st = k ∧ r.q = atV out k + 1)) with
  | none =>
    left
    rw [find_idx_none hx]
    exact ⟨rfl, rfl⟩
  | some i =>
    obtain ⟨hi, e⟩ := find_idx hx
    have hp := List.find?_some e
    simp only [decide_eq_true_eq] at hp
    rw [e]
    simp only [List.getElem?_eq_getElem hi]
    by_cases hd : Due out l[i]
    · right
      refine ⟨i, hi, by rw [if_pos hd], by rw [if_pos hd], hp.1, hp.2, hd⟩
    · left
      exact ⟨if_neg hd, if_neg hd⟩
end Go.Proofs.Ytnneebdcaefgoaa

/- HintHands: the plain law. -/
import Derived.Test.YtijgbfhjimlklaaHnN
namespace Go.Proofs.Ytijgbfhjimlklaa
open Go.RowKit Go.Maps

/-- All for the nodes behind place i, and for that one what is not told yet. -/
structure HdL (A : List Int) (S : List Pt) (i told : Nat) (L : List Hk) : Prop where
  nd : L.Nodup
  mem : ∀ x, x ∈ L ↔ (x.1 ∈ S ∧ x.2 ∈ A.drop (i + 1)) ∨ (A[i]? = some x.2 ∧ x.1 ∈ S.drop told)
section
variable {A : List Int} {S : List Pt} {i told : Nat} {L : List Hk}
theorem drop_at {A : List Int} {i : Nat} {y : Int} : y ∈ A.drop i ↔ A[i]? = some y ∨ y ∈ A.drop (i + 1) := by
  by_cases h : i < A.length
  · rw [List.drop_eq_getElem_cons h, List.mem_cons, List.getElem?_eq_getElem h]
    constructor
    · rintro (e | e)
      · exact .inl (by rw [e])
      · exact .inr e
    · rintro (e | e)
      · injection e with e; exact .inl e.symm
      · exact .inr e
  · rw [List.drop_eq_nil_of_le (by omega), List.drop_eq_nil_of_le (by omega), List.getElem?_eq_none (by omega)]
    simp
theorem HdL.start {ns : List Int} {K : List Pt} (h : Kept K) : HdL (nodesOf ns) (srtH K) 0 0 (KL ns K) := ⟨KL_nodup h, fun x => by
  rw [KL_mem, List.drop_zero, (srtH_perm K).mem_iff]
  have : x.2 ∈ nodesOf ns ↔ (nodesOf ns)[0]? = some x.2 ∨ x.2 ∈ (nodesOf ns).drop 1 := by have := @drop_at (nodesOf ns) 0 x.2; rwa [List.drop_zero] at this
  rw [this]
  constructor
  · rintro ⟨h1, h2 | h2⟩
    · exact .inr ⟨h2, h1⟩
    · exact .inl ⟨h1, h2⟩
  · rintro (⟨h1, h2⟩ | ⟨h1, h2⟩)
    · exact ⟨h1, .inr h2⟩
    · exact ⟨h2, .inl h1⟩⟩
theorem HdL.next (h : HdL A S i S.length L) : HdL A S (i + 1) 0 L := ⟨h.nd, fun x => by
  rw [h.mem, List.drop_eq_nil_of_le (Nat.le_refl S.length), List.drop_zero, @drop_at A (i + 1) x.2]
  constructor
  · rintro (⟨h1, h2 | h2⟩ | ⟨_, h2⟩)
    · exact .inr ⟨h2, h1⟩
    · exact .inl ⟨h1, h2⟩
    · cases h2
  · rintro (⟨h1, h2⟩ | ⟨h1, h2⟩)
    · exact .inl ⟨h1, .inr h2⟩
    · exact .inl ⟨h2, .inl h1⟩⟩
theorem HdL.done (h : HdL A S A.length told L) : L = [] := by
  cases L with
  | nil => rfl
  | cons x r =>
    rcases (h.mem x).1 (List.mem_cons_self ..) with ⟨_, h2⟩ | ⟨h1, _⟩
    · rw [List.drop_eq_nil_of_le (by omega)] at h2; cases h2
    · rw [List.getElem?_eq_none (Nat.le_refl _)] at h1; cases h1
theorem HdL.at_ (h : HdL A S i told L) (hA : A.Nodup) (hi : i < A.length) (p : Pt) : (p, A[i]) ∈ L ↔ p ∈ S.drop told := by
  rw [h.mem, List.getElem?_eq_getElem hi]
  constructor
  · rintro (⟨_, h2⟩ | ⟨_, h2⟩)
    · have h3 := hA
      rw [← List.take_append_drop i A, List.nodup_append] at h3
      have h4 := h3.2.1
      rw [List.drop_eq_getElem_cons hi, List.nodup_cons] at h4
      exact absurd h2 h4.1
    · exact h2
  · intro z; exact .inr ⟨rfl, z⟩
theorem HdL.points (h : HdL A S i told L) (hA : A.Nodup) (hS : S.Nodup) (hi : i < A.length) : (pointsOf L A[i]).Perm (S.drop told) := by
  have hn : (pointsOf L A[i]).Nodup := by
    unfold pointsOf
    show List.Pairwise _ _
    rw [List.pairwise_map, List.pairwise_filter]
    refine h.nd.imp fun {a c} hac h1 h2 e => hac ?_
    simp only [decide_eq_true_eq] at h1 h2
    exact Prod.ext e (h1.trans h2.symm)
  refine (List.perm_ext_iff_of_nodup hn (hS.sublist (List.drop_sublist _ _))).2 fun p => ?_
  rw [← h.at_ hA hi p]
  unfold pointsOf
  rw [List.mem_map]
  constructor
  · rintro ⟨x, hx, rfl⟩
    rw [List.mem_filter] at hx
    have : x.2 = A[i] := by simpa using hx.2
    rw [← this]; exact hx.1
  · intro hp
    exact ⟨(p, A[i]), List.mem_filter.2 ⟨hp, by simp⟩, rfl⟩
theorem HdL.for_ (h : HdL A S i told L) (hA : A.Nodup) (hS : S.Nodup) (hs : S.Pairwise fun x y => ¬ ltH y x) (hi : i < A.length) (n : Nat) : forL L A[i] n = (S.drop told).take n := by
  unfold forL
  rw [srtH_eq (h.points hA hS hi).symm (hs.sublist (List.drop_sublist _ _))]
  rfl
theorem mem_drop_take {S : List Pt} (hS : S.Nodup) (m : Nat) (p : Pt) : (p ∈ S ∧ p ∉ S.take m) ↔ p ∈ S.drop m := by
  have h := hS
  rw [← List.take_append_drop m S, List.nodup_append] at h
  constructor
  · rintro ⟨h1, h2⟩
    rw [← List.take_append_drop m S, List.mem_append] at h1
    exact h1.resolve_left h2
  · intro h1
    exact ⟨List.mem_of_mem_drop h1, fun z => h.2.2 p z p h1 rfl⟩
theorem HdL.ack (h : HdL A S i told L) (hA : A.Nodup) (hS : S.Nodup) (hi : i < A.length) (n : Nat) :
    HdL A S i (told + ((S.drop told).take n).length) (ackL L A[i] ((S.drop told).take n)) ∧ (L.length : Int) - (ackL L A[i] ((S.drop told).take n)).length = ((S.drop told).take n).length
    ∧ ackL (ackL L A[i] ((S.drop told).take n)) A[i] ((S.drop told).take n) = ackL L A[i] ((S.drop told).take n) := by
  have hD := hS.sublist (List.drop_sublist told S)
  have hm := fun p => mem_drop_take hD n p
  have hat := fun p => h.at_ hA hi p
  have hdr : ∀ p, p ∈ (S.drop told).drop n ↔ p ∈ S.drop (told + ((S.drop told).take n).length) := fun p => by
    rw [List.drop_drop, List.length_take, List.length_drop]
    by_cases e : n ≤ S.length - told
    · rw [Nat.min_eq_left e]
    · rw [List.drop_eq_nil_of_le (by omega), List.drop_eq_nil_of_le (by omega)]
  have hsub : ∀ p, p ∈ (S.drop told).take n → p ∈ S.drop told := fun p hp => List.mem_of_mem_take hp
  have hnd2 : ((S.drop told).take n).Nodup := hD.sublist (List.take_sublist _ _)
  generalize (S.drop told).take n = l at *
  refine ⟨⟨ackL_nodup h.nd _ _, fun x => ?_⟩, ?_, ?_⟩
  · have e1 : x ∈ ackL L A[i] l ↔ x ∈ L ∧ ¬ (x.2 = A[i] ∧ x.1 ∈ l) := by
      unfold ackL
      rw [List.mem_filter]
      by_cases k1 : x.2 = A[i] <;> by_cases k2 : x.1 ∈ l <;> simp [k1, k2]
    rw [e1, h.mem, ← hdr x.1, ← hm x.1, List.getElem?_eq_getElem hi]
    constructor
    · rintro ⟨h1 | ⟨h1, h2⟩, h3⟩
      · exact .inl h1
      · injection h1 with h1
        exact .inr ⟨by rw [h1], h2, fun z => h3 ⟨h1.symm, z⟩⟩
    · rintro (⟨h1, h2⟩ | ⟨h1, h2, h3⟩)
      · refine ⟨.inl ⟨h1, h2⟩, fun z => ?_⟩
        have h4 := hA
        rw [← List.take_append_drop i A, List.nodup_append] at h4
        have h5 := h4.2.1
        rw [List.drop_eq_getElem_cons hi, List.nodup_cons] at h5
        rw [z.1] at h2
        exact h5.1 h2
      · exact ⟨.inr ⟨h1, h2⟩, fun z => h3 z.2⟩
  · have h1 : (L.filter fun x => (decide (x.2 = A[i]) && decide (x.1 ∈ l))).length = l.length := by
      have hp : (L.filter fun x => (decide (x.2 = A[i]) && decide (x.1 ∈ l))).Perm (l.map fun p => (p, A[i])) := by
        refine (List.perm_ext_iff_of_nodup (List.Pairwise.filter _ h.nd) ?_).2 fun x => ?_
        · show List.Pairwise _ _
          rw [List.pairwise_map]
          exact (List.nodup_iff_pairwise_ne.1 hnd2).imp (fun h e => h (Prod.mk.inj e).1)
        · rw [List.mem_filter, List.mem_map]
          constructor
          · rintro ⟨_, h2⟩
            simp only [Bool.and_eq_true, decide_eq_true_eq] at h2
            exact ⟨x.1, h2.2, by rw [← h2.1]⟩
          · rintro ⟨p, h2, rfl⟩
            exact ⟨(hat p).2 (hsub p h2), by simp [h2]⟩
      rw [hp.length_eq, List.length_map]
    have h2 : ∀ (M : List Hk) (P : Hk → Bool), (M.filter P).length + (M.filter fun x => !P x).length = M.length := by
      intro M P
      induction M with
      | nil => rfl
      | cons y r ih =>
        rw [List.filter_cons, List.filter_cons, List.length_cons]
        cases hP : P y <;> simp <;> omega
    have h3 := h2 L fun x => (decide (x.2 = A[i]) && decide (x.1 ∈ l))
    have h4 : (ackL L A[i] l) = L.filter fun x => !(decide (x.2 = A[i]) && decide (x.1 ∈ l)) := rfl
    rw [h4]
    omega
  · unfold ackL
    rw [List.filter_filter]
    refine List.filter_congr fun x _ => ?_
    cases (decide (x.2 = A[i]) && decide (x.1 ∈ l)) <;> rfl
end
end Go.Proofs.Ytijgbfhjimlklaa

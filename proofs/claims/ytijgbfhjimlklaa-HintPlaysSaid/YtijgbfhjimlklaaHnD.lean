/- Hints: points sorted. -/
import Derived.Test.YtijgbfhjimlklaaHnC
import Derived.Shelf.SlSortCmp.NoneTotal
namespace Go.Proofs.Ytijgbfhjimlklaa
open Go.RowKit Go.Sort Go.Shelf

def ltN (x y : Pt) : Prop := x.t < y.t ∨ (x.t = y.t ∧ (x.c < y.c ∨ (x.c = y.c ∧ (x.st < y.st ∨ (x.st = y.st ∧ (x.q < y.q ∨ (x.q = y.q ∧ x.v < y.v)))))))
/-- One point is told ahead of the other. -/
def ltH (x y : Pt) : Prop := sb x.s < sb y.s ∨ (x.s = y.s ∧ ltN x y)
theorem cmpH_lt (x y : Pt) : cmpH x y < 0 ↔ ltH x y := by
  have hn : x.s = y.s → (cmpH x y < 0 ↔ ltN x y) := fun e => by
    unfold cmpH
    have : cmpS x.s y.s = 0 := by unfold cmpS; rw [e, if_neg (sb_irr _), if_neg (sb_irr _)]
    rw [this]
    unfold cmpI lessT ltN
    repeat' split
    all_goals omega
  unfold ltH
  rcases sb_tri x.s y.s with h | h | h
  · have e : cmpS x.s y.s = -1 := if_pos h
    unfold cmpH
    rw [e]
    simp [h]
  · have h0 : ¬ sb x.s < sb y.s := by rw [h]; exact sb_irr _
    rw [hn h]
    exact ⟨fun z => .inr ⟨h, z⟩, fun z => z.elim (fun z => absurd z h0) And.right⟩
  · have h1 : ¬ sb x.s < sb y.s := fun z => List.lt_asymm h z
    have h2 : x.s ≠ y.s := fun e => by rw [e] at h; exact sb_irr _ h
    have e : cmpS x.s y.s = 1 := by unfold cmpS; rw [if_neg h1, if_pos h]
    unfold cmpH
    rw [e]
    simp [h1, h2]
theorem ltH_irr (x : Pt) : ¬ ltH x x := by
  rintro (h | ⟨_, h⟩)
  · exact sb_irr _ h
  · unfold ltN at h; omega
theorem ltH_tr {x y z : Pt} (h1 : ltH x y) (h2 : ltH y z) : ltH x z := by
  unfold ltH at *
  rcases h1 with h1 | ⟨h1, k1⟩
  · rcases h2 with h2 | ⟨h2, _⟩
    · exact .inl (List.lt_trans h1 h2)
    · exact .inl (by rw [← h2]; exact h1)
  · rcases h2 with h2 | ⟨h2, k2⟩
    · exact .inl (by rw [h1]; exact h2)
    · exact .inr ⟨h1.trans h2, by unfold ltN at *; omega⟩
theorem ltH_tri (x y : Pt) : ltH x y ∨ x = y ∨ ltH y x := by
  unfold ltH
  rcases sb_tri x.s y.s with h | h | h
  · exact .inl (.inl h)
  · by_cases h1 : ltN x y
    · exact .inl (.inr ⟨h, h1⟩)
    · by_cases h2 : ltN y x
      · exact .inr (.inr (.inr ⟨h.symm, h2⟩))
      · right; left
        obtain ⟨a1, a2, a3, a4, a5, a6⟩ := x
        obtain ⟨b1, b2, b3, b4, b5, b6⟩ := y
        unfold ltN at h1 h2
        simp only at h h1 h2
        have e2 : a2 = b2 := by omega
        have e4 : a4 = b4 := by omega
        have e5 : a5 = b5 := by omega
        have e6 : a6 = b6 := by omega
        have e3 : a3 = b3 := by omega
        subst h e2 e3 e4 e5 e6; rfl
  · exact .inr (.inr (.inl h))
theorem ltOf_H (x y : Pt) : ltOf cmpH x y = true ↔ ltH x y := by rw [← cmpH_lt]; simp [ltOf]
theorem ltOf_Hf (x y : Pt) : ltOf cmpH x y = false ↔ ¬ ltH x y := by rw [← Bool.not_eq_true, ltOf_H]
theorem swoH : SWO (ltOf cmpH) where
  irrefl x := by rw [ltOf_Hf]; exact ltH_irr x
  trans x y z h1 h2 := by rw [ltOf_H] at *; exact ltH_tr h1 h2
  ntrans x y z h1 h2 := by
    rw [ltOf_Hf] at *
    intro h
    rcases ltH_tri x y with e | e | e
    · exact h1 e
    · subst e; exact h2 h
    · exact h2 (ltH_tr e h)
theorem totH (x y : Pt) (h1 : ltOf cmpH x y = false) (h2 : ltOf cmpH y x = false) : x = y := by
  rw [ltOf_Hf] at *
  exact ((ltH_tri x y).resolve_left h1).resolve_right h2
/-- Points, sorted. -/
def srtH (l : List Pt) : List Pt := l.mergeSort fun x y => !(ltOf cmpH) y x
theorem srtH_perm (l : List Pt) : (srtH l).Perm l := List.mergeSort_perm _ _
theorem srtH_len (l : List Pt) : (srtH l).length = l.length := (srtH_perm l).length_eq
theorem srtH_le (l : List Pt) : (srtH l).Pairwise fun x y => ¬ ltH y x := by
  have h := List.pairwise_mergeSort (le := fun x y => !(ltOf cmpH) y x) (fun a b c h1 h2 => by
    simp only [Bool.not_eq_true'] at *
    rw [ltOf_Hf] at *
    intro h
    rcases ltH_tri b a with e | e | e
    · exact h1 e
    · subst e; exact h2 h
    · exact h2 (ltH_tr h e)) (fun a b => by
    simp only [Bool.or_eq_true, Bool.not_eq_true']
    rw [ltOf_Hf, ltOf_Hf]
    by_cases h : ltH b a
    · exact .inr (fun z => ltH_irr _ (ltH_tr h z))
    · exact .inl h) l
  exact h.imp (fun {a b} h => by simp only [Bool.not_eq_true'] at h; exact (ltOf_Hf _ _).1 h)
theorem sortedH_unique : ∀ {l1 l2 : List Pt}, l1.Perm l2 → (l1.Pairwise fun x y => ¬ ltH y x) → (l2.Pairwise fun x y => ¬ ltH y x) → l1 = l2
  | [], l2, hp, _, _ => by have := hp.symm.eq_nil; rw [this]
  | x :: l1, [], hp, _, _ => by have := hp.eq_nil; cases this
  | x :: l1, y :: l2, hp, h1, h2 => by
    have hx : x = y := by
      have mx : x ∈ y :: l2 := hp.mem_iff.1 (List.mem_cons_self ..)
      have my : y ∈ x :: l1 := hp.mem_iff.2 (List.mem_cons_self ..)
      rcases List.mem_cons.1 mx with e | m1
      · exact e
      · rcases List.mem_cons.1 my with e | m2
        · exact e.symm
        · exact ((ltH_tri x y).resolve_left (List.rel_of_pairwise_cons h2 m1)).resolve_right (List.rel_of_pairwise_cons h1 m2)
    subst hx
    rw [sortedH_unique (List.perm_cons x |>.1 hp) (List.pairwise_cons.1 h1).2 (List.pairwise_cons.1 h2).2]
theorem srtH_eq {l T : List Pt} (hp : T.Perm l) (h : T.Pairwise fun x y => ¬ ltH y x) : srtH l = T := sortedH_unique ((srtH_perm l).trans hp.symm) (srtH_le l) h
theorem srtH_congr {l l' : List Pt} (hp : l.Perm l') : srtH l = srtH l' := srtH_eq ((srtH_perm l').trans hp.symm) (srtH_le l')
theorem ptC_one (x : Pt) : ∀ v ∈ ptC x, v.oneCell' = true := by
  intro v hv
  simp only [List.mem_cons, List.not_mem_nil, or_false] at hv
  rcases hv with rfl | rfl | rfl | rfl | rfl | rfl <;> rfl
set_option maxHeartbeats 1000000 in
theorem sortp_calls (l : List Pt) (hl : l.length ≤ 1000000) (v : Value) (base : Nat) (w : World) (h : w.ownsRow base 31 6 v l.length (encP l)) :
    Calls Try.prog 35 #[v, .func (.func 36) #[] #[]] w fun e w' => e = .returned (.tuple #[]) ∧ w'.ownsRow base 31 6 v (srtH l).length (encP (srtH l)) ∧ w.grownBy w' v.ownBlock := by
  rcases Nat.eq_zero_or_pos l.length with h0 | h0
  · obtain rfl : l = [] := List.length_eq_zero_iff.1 h0
    obtain ⟨a, c, rfl⟩ := own_slice h
    have hs := AnyF.slices_SortFunc_none { sortS with } a c (.func (.func 36) #[] #[]) w
    change Calls Try.prog 35 _ _ _ at hs
    refine hs.mono ?_
    rintro e w' ⟨rfl, rfl⟩
    exact ⟨rfl, by rw [show srtH [] = [] by unfold srtH; simp]; exact h, ⟨rfl, rfl, rfl, Nat.le_refl _, fun _ _ _ => rfl⟩⟩
  · obtain ⟨g, cap, rfl, hgb, hgw⟩ := own_at h h0
    have eg : ∀ args w, (callFunc 36 args).run Try.prog w = .ok (.enter 36 args) w := enters_of Try.func36 (by kernel_rfl) rfl
    have hk : ∀ x : Pt, (ptC x).length = 6 := fun _ => rfl
    have hcmp : CmpLays Try.prog 36 #[] ptC 6 cmpH g 0 l.toArray.size w := fun _ _ _ _ x y => order_calls x y _
    have hs := AnyQ.slices_SortFunc_total sortS 6 Try.isAgg31 Try.sizeOf31 ptC hk ptC_one cmpH swoH 36 #[] g 0 cap l.toArray w eg hcmp (holds_of_own ptC 6 hk h) hgw (by simp; omega) totH
    change Calls Try.prog 35 _ _ _ at hs
    have ea : l.toArray.size = l.length := by simp
    rw [ea] at hs
    refine hs.mono ?_
    rintro e w' ⟨rfl, n, os, rfl⟩
    have ho := sort_own ptC 6 hk h n (srtH l).toArray (by simp [srtH_len]) os
    refine ⟨rfl, ?_, ho.2⟩
    rw [srtH_len]
    exact ho.1
end Go.Proofs.Ytijgbfhjimlklaa

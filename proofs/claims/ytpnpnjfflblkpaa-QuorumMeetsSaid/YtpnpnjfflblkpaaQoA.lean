/- The plain law of QuorumOrder: a node's list with its repair is the whole. -/
import Derived.Test.YtpnpnjfflblkpaaSpA
namespace Go.Proofs.Ytpnpnjfflblkpaa
open Go.RowKit Go.Sort

theorem less_total {a b : Pt} (h : a.q ≠ b.q) : lessT a b ∨ lessT b a := by
  unfold lessT; omega
theorem less_trans {a b c : Pt} (h1 : lessT a b) (h2 : lessT b c) : lessT a c := by
  unfold lessT at *; omega
theorem less_not {a b : Pt} (h : lessT a b) : ¬ lessT b a := by
  unfold lessT at *; omega
/-- The best of a list at one place: one of it, and none of it is newer. -/
theorem best_is {s : ByteArray} {t : Int} : ∀ (r : List Pt) (x : Pt), (∀ y ∈ x :: r, y.s = s ∧ y.t = t) → r.foldl bt x ∈ x :: r ∧ ∀ y ∈ x :: r, ¬ lessT (r.foldl bt x) y
  | [], x, _ => ⟨List.mem_cons_self .., fun y hy => by
      rw [List.mem_singleton.1 hy]; intro h; exact less_not h h⟩
  | z :: r, x, h => by
    have hx := h x (List.mem_cons_self ..)
    have hz := h z (List.mem_cons_of_mem _ (List.mem_cons_self ..))
    have hb : bt x z = x ∨ bt x z = z := by unfold bt; split <;> simp
    have hbs : ∀ y ∈ bt x z :: r, y.s = s ∧ y.t = t := fun y hy => by
      rcases List.mem_cons.1 hy with rfl | hy
      · rcases hb with e | e <;> rw [e] <;> assumption
      · exact h y (List.mem_cons_of_mem _ (List.mem_cons_of_mem _ hy))
    obtain ⟨h1, h2⟩ := best_is r (bt x z) hbs
    refine ⟨?_, fun y hy => ?_⟩
    · show r.foldl bt (bt x z) ∈ _
      rcases List.mem_cons.1 h1 with e | e
      · rw [e]
        rcases hb with e | e <;> rw [e] <;> simp
      · exact List.mem_cons_of_mem _ (List.mem_cons_of_mem _ e)
    · show ¬ lessT (r.foldl bt (bt x z)) y
      rcases List.mem_cons.1 hy with rfl | hy
      · intro hl
        have h3 := h2 (bt y z) (List.mem_cons_self ..)
        by_cases hn : newT z y
        · have e : bt y z = z := if_pos hn
          rw [e] at hl h3
          exact h3 (less_trans hl hn.2.2)
        · have e : bt y z = y := if_neg hn
          rw [e] at hl h3
          exact h3 hl
      · rcases List.mem_cons.1 hy with rfl | hy
        · intro hl
          by_cases hn : newT y x
          · refine h2 (bt x y) (List.mem_cons_self ..) ?_
            have e : bt x y = y := if_pos hn
            rw [e] at hl ⊢
            exact hl
          · have e : bt x y = x := if_neg hn
            have hnl : ¬ lessT x y := fun z => hn ⟨by rw [hz.1, hx.1], by rw [hz.2, hx.2], z⟩
            rw [e] at hl
            have := h2 (bt x y) (List.mem_cons_self ..)
            rw [e] at this
            unfold lessT at hl hnl this
            omega
        · exact h2 y (List.mem_cons_of_mem _ hy)
theorem atK_key {s : ByteArray} {t : Int} {l : List Pt} : ∀ y ∈ atK s t l, y.s = s ∧ y.t = t := fun y hy => by
  have := (List.mem_filter.1 (show y ∈ l.filter _ from hy)).2
  simpa using this
theorem atK_in {s : ByteArray} {t : Int} {l : List Pt} {y : Pt} (h : y ∈ atK s t l) : y ∈ l := (List.mem_filter.1 (show y ∈ l.filter _ from h)).1
/-- A node's list with what it lacks of the whole is the whole. -/
theorem whole_law (Gs : List (List Pt)) (hu : ∀ x ∈ Gs.flatten, ∀ y ∈ Gs.flatten, x.q = y.q → x = y) (G : List Pt) (hG : G ∈ Gs) :
    sortP (G ++ (sortP (Gs.map sortP).flatten).filter fun x => decide (x ∉ sortP G)) = sortP (Gs.map sortP).flatten := by
  refine sortP_eq (sortP_str _) fun s t => ?_
  have hin : ∀ y ∈ sortP G, y ∈ (Gs.map sortP).flatten := fun y hy => List.mem_flatten.2 ⟨_, List.mem_map.2 ⟨G, hG, rfl⟩, hy⟩
  have hfl : ∀ y ∈ (Gs.map sortP).flatten, y ∈ Gs.flatten := fun y hy => by
    obtain ⟨L, hL, hy⟩ := List.mem_flatten.1 hy
    obtain ⟨K, hK, rfl⟩ := List.mem_map.1 hL
    exact List.mem_flatten.2 ⟨K, hK, sortP_mem hy⟩
  have hM := sortP_at (Gs.map sortP).flatten s t
  have hS := sortP_at G s t
  have hfilt : atK s t ((sortP (Gs.map sortP).flatten).filter fun x => decide (x ∉ sortP G)) = (atK s t (sortP (Gs.map sortP).flatten)).filter fun x => decide (x ∉ sortP G) := by
    unfold atK
    rw [List.filter_filter, List.filter_filter]
    exact List.filter_congr fun x _ => by rw [Bool.and_comm]
  rw [atK_app, hfilt, hM]
  cases eA : atK s t (Gs.map sortP).flatten with
  | nil =>
    have hg : atK s t G = [] := by
      cases eg : atK s t G with
      | nil => rfl
      | cons y r =>
        rw [eg] at hS
        have : r.foldl bt y ∈ atK s t (sortP G) := by rw [hS]; exact List.mem_singleton.2 rfl
        have h2 : r.foldl bt y ∈ atK s t (Gs.map sortP).flatten := List.mem_filter.2 ⟨hin _ (atK_in this), (List.mem_filter.1 (show _ ∈ (sortP G).filter _ from this)).2⟩
        rw [eA] at h2; cases h2
    rw [hg]; rfl
  | cons x0 r0 =>
    obtain ⟨m1, m2⟩ := best_is r0 x0 (fun y hy => atK_key y (by rw [eA]; exact hy))
    show [r0.foldl bt x0] = _
    obtain ⟨m, em⟩ : ∃ m, r0.foldl bt x0 = m := ⟨_, rfl⟩
    show [r0.foldl bt x0] = best (atK s t G ++ [r0.foldl bt x0].filter _)
    rw [em] at m1 m2 ⊢
    rw [← eA] at m1 m2
    have mk := atK_key m m1
    by_cases hm : m ∈ sortP G
    · have e : ([m].filter fun x => decide (x ∉ sortP G)) = [] := by simp [hm]
      rw [e, List.append_nil, ← hS]
      have h1 : m ∈ atK s t (sortP G) := List.mem_filter.2 ⟨hm, by simpa using mk⟩
      cases eg : atK s t G with
      | nil => rw [hS, eg] at h1; cases h1
      | cons y r =>
        rw [hS, eg] at h1 ⊢
        rw [List.mem_singleton.1 h1]; rfl
    · have e : ([m].filter fun x => decide (x ∉ sortP G)) = [m] := by simp [hm]
      rw [e]
      cases eg : atK s t G with
      | nil => rfl
      | cons y r =>
        show [m] = [(r ++ [m]).foldl bt y]
        rw [List.foldl_append]
        have hy : r.foldl bt y ∈ atK s t (sortP G) := by rw [hS, eg]; exact List.mem_singleton.2 rfl
        have hyk := atK_key _ hy
        have hyG := atK_in hy
        have hyA : r.foldl bt y ∈ atK s t (Gs.map sortP).flatten := List.mem_filter.2 ⟨hin _ hyG, (List.mem_filter.1 (show _ ∈ (sortP G).filter _ from hy)).2⟩
        obtain ⟨z, ez⟩ : ∃ z, r.foldl bt y = z := ⟨_, rfl⟩
        rw [ez] at hyk hyG hyA ⊢
        have hne : z.q ≠ m.q := fun h => hm (by rw [← hu z (hfl _ (atK_in hyA)) m (hfl _ (atK_in m1)) h]; exact hyG)
        have hl : lessT z m := (less_total hne).resolve_right (m2 z hyA)
        show [m] = [bt z m]
        have : bt z m = m := if_pos ⟨by rw [mk.1, hyk.1], by rw [mk.2, hyk.2], hl⟩
        rw [this]
end Go.Proofs.Ytpnpnjfflblkpaa

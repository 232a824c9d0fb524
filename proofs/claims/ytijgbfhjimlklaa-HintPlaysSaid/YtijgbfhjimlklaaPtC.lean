/- Points: which is newer; places; lists of points that are the same; points that may be. -/
import Derived.Test.YtijgbfhjimlklaaPtB
namespace Go.Proofs.Ytijgbfhjimlklaa
open Go.RowKit Go.Sort

theorem new_cases (a b : Pt) : ((a.s.toList == b.s.toList) = false ∧ ¬ newT a b) ∨ ((a.s.toList == b.s.toList) = true ∧ (a.t == b.t) = false ∧ ¬ newT a b)
    ∨ ((a.s.toList == b.s.toList) = true ∧ (a.t == b.t) = true ∧ decide (lessT b a) = decide (newT a b)) := by
  rw [eq_sb]
  unfold newT
  by_cases h : a.s = b.s
  · by_cases ht : a.t = b.t
    · exact .inr (.inr ⟨decide_eq_true h, beq_iff_eq.2 ht, decide_eq_decide.2 ⟨fun z => ⟨h, ht, z⟩, fun z => z.2.2⟩⟩)
    · exact .inr (.inl ⟨decide_eq_true h, beq_false_of_ne ht, fun z => ht z.2.1⟩)
  · exact .inl ⟨decide_eq_false h, fun z => h z.1⟩
def cmpB (a b : Pt) : Int := if bef a b then -1 else if bef b a then 1 else 0
theorem bef_irr (a : Pt) : ¬ bef a a := fun z => z.elim (sb_irr _) (fun z => by have := z.2; omega)
theorem bef_asymm {a b : Pt} (h : bef a b) : ¬ bef b a := by
  unfold bef at *
  rcases h with h | ⟨h1, h2⟩
  · rintro (z | ⟨z, _⟩)
    · exact List.lt_asymm h z
    · rw [z] at h; exact sb_irr _ h
  · rintro (z | ⟨_, z⟩)
    · rw [h1] at z; exact sb_irr _ z
    · omega
theorem bef_trans {a b c : Pt} (h1 : bef a b) (h2 : bef b c) : bef a c := by
  unfold bef at *
  rcases h1 with h1 | ⟨h1, k1⟩
  · rcases h2 with h2 | ⟨h2, _⟩
    · exact .inl (List.lt_trans h1 h2)
    · exact .inl (by rw [← h2]; exact h1)
  · rcases h2 with h2 | ⟨h2, k2⟩
    · exact .inl (by rw [h1]; exact h2)
    · exact .inr ⟨h1.trans h2, by omega⟩
theorem bef_tri (a b : Pt) : bef a b ∨ (a.s = b.s ∧ a.t = b.t) ∨ bef b a := by
  unfold bef
  rcases sb_tri a.s b.s with h | h | h
  · exact .inl (.inl h)
  · by_cases h1 : a.t < b.t
    · exact .inl (.inr ⟨h, h1⟩)
    · by_cases h2 : b.t < a.t
      · exact .inr (.inr (.inr ⟨h.symm, h2⟩))
      · exact .inr (.inl ⟨h, by omega⟩)
  · exact .inr (.inr (.inl h))
end Go.Proofs.Ytijgbfhjimlklaa

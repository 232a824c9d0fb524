/- Points held against each other. -/
import Derived.Test.YtpnpnjfflblkpaaPtA
import Derived.Sort.Walk0
import Derived.Sort.Grow
namespace Go.Proofs.Ytpnpnjfflblkpaa
open Go.RowKit Go.Sort

/-- What there was is as it was, and what is new stands behind it (as the library's sort wants it told). -/
def Gw (W w' : World) : Prop := ∃ q os', w' = grow (W.drewN q) os'
theorem Gw.rfl' {W : World} : Gw W W := ⟨0, #[], by simp [World.drewN, grow]⟩
theorem Gw.al {W w' : World} (h : Gw W w') (o : Obj) : Gw W (w'.alloc o) := by
  obtain ⟨q, os', rfl⟩ := h
  exact ⟨q, os' ++ #[o], by rw [alloc_eq_grow, grow_grow]⟩
theorem Gw.dr {W w' : World} (h : Gw W w') : Gw W w'.drew := by
  obtain ⟨q, os', rfl⟩ := h
  exact ⟨q + 1, os', rfl⟩
theorem Gw.tr {a b c : World} (h : Gw a b) (k : Gw b c) : Gw a c := by
  obtain ⟨q, os', rfl⟩ := h
  obtain ⟨q2, os2, rfl⟩ := k
  exact ⟨q + q2, os' ++ os2, by simp [World.drewN, grow, Array.append_assoc, Nat.add_assoc]⟩
theorem Gw.gr {W w' : World} (h : Gw W w') : Gr W w' := by
  obtain ⟨q, os', rfl⟩ := h
  exact ⟨rfl, rfl, rfl, by simp [World.drewN, grow], fun k hk => by simp only [World.drewN, grow]; rw [Array.getElem?_append_left hk]⟩
/-- A text's bytes. -/
def sb (s : ByteArray) : List UInt8 := s.data.toList
theorem sb_inj {a b : ByteArray} (h : sb a = sb b) : a = b := by
  obtain ⟨⟨a⟩⟩ := a; obtain ⟨⟨b⟩⟩ := b
  simp only [sb] at h
  rw [h]
theorem sb_tri (a b : ByteArray) : sb a < sb b ∨ a = b ∨ sb b < sb a := by
  by_cases h1 : sb a < sb b
  · exact .inl h1
  by_cases h2 : sb b < sb a
  · exact .inr (.inr h2)
  · exact .inr (.inl (sb_inj (List.le_antisymm h2 h1)))
theorem sb_irr (a : ByteArray) : ¬ sb a < sb a := List.lt_irrefl _
theorem less_sb (a b : ByteArray) : Op.bytesLess a.toList b.toList = decide (sb a < sb b) := by
  rw [bytesLess_eq, Lib.toList_data, Lib.toList_data]; rfl
theorem eq_sb (a b : ByteArray) : (a.toList == b.toList) = decide (a = b) := by
  rw [Lib.toList_data, Lib.toList_data]
  by_cases h : a = b
  · subst h; simp
  · rw [decide_eq_false h]
    exact beq_false_of_ne (fun e => h (sb_inj e))
/-- One stamp is earlier. -/
def lessT (a b : Pt) : Prop := a.c < b.c ∨ (a.c = b.c ∧ (a.st < b.st ∨ (a.st = b.st ∧ a.q < b.q)))
instance (a b : Pt) : Decidable (lessT a b) := by unfold lessT; exact inferInstance
/-- One place is ahead of the other. -/
def bef (a b : Pt) : Prop := sb a.s < sb b.s ∨ (a.s = b.s ∧ a.t < b.t)
instance (a b : Pt) : Decidable (bef a b) := by unfold bef; exact inferInstance
def newT (a b : Pt) : Prop := a.s = b.s ∧ a.t = b.t ∧ lessT b a
instance (a b : Pt) : Decidable (newT a b) := by unfold newT; exact inferInstance
theorem bef_cases (a b : Pt) : (Op.bytesLess a.s.toList b.s.toList = true ∧ bef a b) ∨ (Op.bytesLess a.s.toList b.s.toList = false ∧ (a.s.toList == b.s.toList) = true ∧ a.t < b.t ∧ bef a b)
    ∨ (Op.bytesLess a.s.toList b.s.toList = false ∧ (a.s.toList == b.s.toList) = true ∧ ¬ a.t < b.t ∧ ¬ bef a b) ∨ (Op.bytesLess a.s.toList b.s.toList = false ∧ (a.s.toList == b.s.toList) = false ∧ ¬ bef a b) := by
  rw [less_sb, eq_sb]
  unfold bef
  rcases sb_tri a.s b.s with h | h | h
  · exact .inl ⟨decide_eq_true h, .inl h⟩
  · have h0 : ¬ sb a.s < sb b.s := by rw [h]; exact sb_irr _
    by_cases ht : a.t < b.t
    · exact .inr (.inl ⟨decide_eq_false h0, decide_eq_true h, ht, .inr ⟨h, ht⟩⟩)
    · exact .inr (.inr (.inl ⟨decide_eq_false h0, decide_eq_true h, ht, fun z => z.elim h0 (fun z => ht z.2)⟩))
  · have h1 : ¬ sb a.s < sb b.s := fun z => List.lt_asymm h z
    have h2 : a.s ≠ b.s := fun e => by rw [e] at h; exact sb_irr _ h
    exact .inr (.inr (.inr ⟨decide_eq_false h1, decide_eq_false h2, fun z => z.elim h1 (fun z => h2 z.1)⟩))
abbrev stV (p : Pt) : Value := .agg #[.int .i64 p.c, .int .i64 p.st, .int .i64 p.q]
theorem rless_calls (a b : Pt) (w : World) : Calls Try.prog 58 #[stV a, stV b] w fun e w' => e = .returned (.bool (decide (lessT a b))) ∧ Gw w w' := by
  have hl : lessT a b ↔ (a.c < b.c ∨ (a.c = b.c ∧ (a.st < b.st ∨ (a.st = b.st ∧ a.q < b.q)))) := Iff.rfl
  have HL := Lib.hid hl
  clear hl
  go_enter Try.func58, Try.ntmps58
  go_wp2_with fail
  all_goals
    go_ret
    refine ⟨ret_b rfl (decide_eq_decide.2 ?_), Gw.al (Gw.al Gw.rfl' _) _⟩
    simp only [bne_iff_ne, ne_eq, bne_eq_false_iff_eq, Bool.not_eq_true, Decidable.not_not] at *
    rw [HL.out]
    omega
theorem less_calls (a b : Pt) (w : World) : Calls Try.prog 80 #[stV a, stV b] w fun e w' => e = .returned (.bool (decide (lessT a b))) ∧ Gw w w' := by
  have hl : lessT a b ↔ (a.c < b.c ∨ (a.c = b.c ∧ (a.st < b.st ∨ (a.st = b.st ∧ a.q < b.q)))) := Iff.rfl
  have HL := Lib.hid hl
  clear hl
  go_enter Try.func80, Try.ntmps80
  go_wp2_with fail
  all_goals
    go_ret
    refine ⟨ret_b rfl (decide_eq_decide.2 ?_), Gw.al (Gw.al Gw.rfl' _) _⟩
    simp only [bne_iff_ne, ne_eq, bne_eq_false_iff_eq, Bool.not_eq_true, Decidable.not_not] at *
    rw [HL.out]
    omega
theorem rbefore_calls (a b : Pt) (w : World) : Calls Try.prog 44 #[ptV a, ptV b] w fun e w' => e = .returned (.bool (decide (bef a b))) ∧ Gw w w' := by
  rcases bef_cases a b with ⟨h1, hr⟩ | ⟨h1, h2, h3, hr⟩ | ⟨h1, h2, h3, hr⟩ | ⟨h1, h2, hr⟩
  all_goals
    (first | rw [decide_eq_true hr] | rw [decide_eq_false hr])
    clear hr
    go_enter Try.func44, Try.ntmps44
    go_wp2_with fail
    go_ret
    exact ⟨rfl, Gw.al (Gw.al Gw.rfl' _) _⟩
theorem before_calls (a b : Pt) (w : World) : Calls Try.prog 79 #[ptV a, ptV b] w fun e w' => e = .returned (.bool (decide (bef a b))) ∧ Gw w w' := by
  rcases bef_cases a b with ⟨h1, hr⟩ | ⟨h1, h2, h3, hr⟩ | ⟨h1, h2, h3, hr⟩ | ⟨h1, h2, hr⟩
  all_goals
    (first | rw [decide_eq_true hr] | rw [decide_eq_false hr])
    clear hr
    go_enter Try.func79, Try.ntmps79
    go_wp2_with fail
    go_ret
    exact ⟨rfl, Gw.al (Gw.al Gw.rfl' _) _⟩
end Go.Proofs.Ytpnpnjfflblkpaa

/- What the two Nexts take, plain; the reference's stores. -/
import Derived.Test.YtnneebdcaefgoaaCcC
namespace Go.Proofs.Ytnneebdcaefgoaa
open Go.RowKit Go.Maps

theorem Pair.take {B : Buf} {most : Int} {out : List Int} {l : List Rec} (h : Pair B most out l) {k : Int} {i : Nat} (hi : i < l.length) (hst : l[i].st = k) : Pair (takeB B k l[i]) most (withV out k l[i].q) (l.eraseIdx i) := by
  have hsplit : l = l.take i ++ l[i] :: l.drop (i + 1) := by rw [← List.drop_eq_getElem_cons hi, List.take_append_drop]
  have her : l.eraseIdx i = l.take i ++ l.drop (i + 1) := List.eraseIdx_eq_take_drop_succ ..
  have hu := h.uniq
  rw [hsplit, List.pairwise_append, List.pairwise_cons] at hu
  obtain ⟨hu1, ⟨hu2, hu3⟩, hu4⟩ := hu
  refine ⟨h.most, by show withV B.out k l[i].q = _; rw [h.out], ?_, fun s q => ?_, h.uniq.sublist (List.eraseIdx_sublist l i)⟩
  · show B.n - 1 = _
    rw [h.n, List.length_eraseIdx_of_lt hi]
  · show (if s = k ∧ q = l[i].q then none else B.f s q) = _
    rw [her]
    unfold keyF
    rw [List.find?_append]
    by_cases e : s = k ∧ q = l[i].q
    · rw [if_pos e]
      have e1 : ((l.take i).find? fun r => decide (r.st = s ∧ r.q = q)) = none := by
        rw [List.find?_eq_none]
        intro x hx z
        simp only [decide_eq_true_eq] at z
        exact hu4 x hx l[i] (List.mem_cons_self ..) ⟨by rw [z.1, e.1, hst], by rw [z.2, e.2]⟩
      have e2 : ((l.drop (i + 1)).find? fun r => decide (r.st = s ∧ r.q = q)) = none := by
        rw [List.find?_eq_none]
        intro x hx z
        simp only [decide_eq_true_eq] at z
        exact hu2 x hx ⟨by rw [z.1, e.1, hst], by rw [z.2, e.2]⟩
      rw [e1, e2]; rfl
    · rw [if_neg e, h.f]
      unfold keyF
      have e3 : (l.find? fun r => decide (r.st = s ∧ r.q = q)) = ((l.take i ++ l[i] :: l.drop (i + 1)).find? fun r => decide (r.st = s ∧ r.q = q)) := by rw [← hsplit]
      rw [e3, List.find?_append, List.find?_cons, decide_eq_false (fun z => e ⟨by rw [← z.1, hst], z.2.symm⟩)]
theorem RefX.setOut {E : Nat → Prop} {w : World} {p N : Nat} {most : Int} {out out' : List Int} {v ov' : Value} {L : List (Rec × Value)} (h : RefE E w p N most out v L) (ho : rdX (fun k => LX p v k ∨ E k) w ov' out') :
    RefE E (w.setCell ⟨p, 1, none⟩ ov') p N most out' v L ∧ Bt (fun b => b = p) w (w.setCell ⟨p, 1, none⟩ ov') := by
  obtain ⟨ov, hblk, _⟩ := h.blk
  have hb : Bt (fun b => b = p) w (w.setCell ⟨p, 1, none⟩ ov') := Bt.row (grown_set w p 1 _) rfl
  exact ⟨⟨⟨ov', by rw [heap_setCell_same w p 1 _ _ _ hblk]; rfl, ho.bt hb (fun k hk => .inl (.inl hk))⟩, own_bt h.own hb (fun k e z => h.px (by rw [e, z])), h.px, h.pN, fun x hx => (h.deps x hx).bt hb (fun k hk => .inl (.inl hk))⟩, hb⟩
end Go.Proofs.Ytnneebdcaefgoaa

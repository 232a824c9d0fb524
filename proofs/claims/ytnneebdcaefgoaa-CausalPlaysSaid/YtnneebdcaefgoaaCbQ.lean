/- Lacks where nothing is held. -/
import Derived.Test.YtnneebdcaefgoaaCbE2
import Derived.Maps.RangeWalk
import Derived.Laws.IdiomRangeMap
namespace Go.Proofs.Ytnneebdcaefgoaa
open Go.RowKit Go.Maps

theorem range_empty {w : World} {mb : Option Nat} {f : Int → Int → Option Value} (h : MapIs w mb f 0) :
    ∃ w1, (Instr.range 54 (.map mb)).run Try.prog w = .ok (.pointer (some ⟨w.heap.size, 0, none⟩)) w1 ∧ Gr w w1 ∧ ∀ ty, (Instr.next (.pointer (some ⟨w.heap.size, 0, none⟩)) false ty).run Try.prog w1 = .ok (.tuple #[.bool false]) w1 := by
  rcases h with ⟨rfl, _, _⟩ | ⟨b, D, rfl, hown, hs, _⟩
  · exact ⟨_, run_range_nilMap w _ _ _ Try.underlying54, Gr.al Gr.rfl' _, fun ty => run_next_nilMap w ty 0 0 #[]⟩
  · obtain ⟨w1, h1, h2, h3, _⟩ := hown.range lawK Try.underlying54
    refine ⟨w1, h1, ⟨h3.os, h3.tape, h3.output, h3.size, fun i hi => h3.block i hi (by simp)⟩, fun ty => ?_⟩
    rcases h2.next lawK ty with ⟨_, _, h4⟩ | ⟨_, _, _, _, _, _, _, _, _, _, _, _, h4, _⟩
    · exact h4
    · omega
theorem compact_nil (w : World) : Calls Try.prog 43 #[.slice none 0 0] w fun e w' => e = .returned (.slice none 0 0) ∧ w = w' := by
  go_enter Try.func43, Try.ntmps43
  go_wp2_with fail
  go_ret
  exact ⟨rfl, rfl⟩
theorem lacks_none (hS : ∀ W, Calls Try.prog 42 #[.slice none 0 0] W fun e w' => e = .returned (.tuple #[]) ∧ w' = W) (w : World) (p : Nat) (mb : Option Nat) (B : Buf) (h : BufAt w p mb B) (h0 : B.n = 0) :
    Calls Try.prog 22 #[.pointer (some ⟨p, 0, none⟩)] w fun e w' => e = .returned (.slice none 0 0) ∧ Gr w w' := by
  obtain ⟨ov, _, _, c2, _⟩ := bcells h
  obtain ⟨w1, hrg, hg, hnx⟩ : ∃ w1, (Instr.range 54 (.map mb)).run Try.prog w = .ok (.pointer (some ⟨w.heap.size, 0, none⟩)) w1 ∧ Gr w w1 ∧ ∀ ty, (Instr.next (.pointer (some ⟨w.heap.size, 0, none⟩)) false ty).run Try.prog w1 = .ok (.tuple #[.bool false]) w1 := by
    obtain ⟨_, _, ov, fv, _, _, h5, _⟩ := h
    rw [h0] at h5
    exact range_empty h5
  have HG := Lib.hid hg; have HS := Lib.hid hS
  clear h h0 hg hS
  go_enter Try.func22, Try.ntmps22
  go_wp2_with fail
  go_loopw [3] (fun v wr => v = .slice none 0 0 ∧ wr = w1) (fun _ _ => 0)
  case atStart => exact ⟨rfl, rfl⟩
  case round =>
    obtain ⟨rfl, rfl⟩ := hrel
    go_wp2_with fail
    refine (HS.out _).mono ?_
    rintro e w2 ⟨rfl, rfl⟩
    go_wp2_with fail
    refine (compact_nil _).mono ?_
    rintro e w3 ⟨rfl, rfl⟩
    go_wp2_with fail
    go_ret
    exact ⟨rfl, HG.out⟩
end Go.Proofs.Ytnneebdcaefgoaa

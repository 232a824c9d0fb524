/- Records in cells; the reference's Same. -/
import Derived.Test.YtnneebdcaefgoaaCaJ
namespace Go.Proofs.Ytnneebdcaefgoaa
open Go.RowKit

/-- A record in cells. -/
def RecAt (w : World) (B : Nat) (r : Rec) (d : Value) : Prop := w.cell? ⟨B, 0, none⟩ = some (.int .i64 r.k) ∧ w.cell? ⟨B, 1, none⟩ = some (.string r.s) ∧ w.cell? ⟨B, 2, none⟩ = some (.int .i64 r.t) ∧ w.cell? ⟨B, 3, none⟩ = some (.int .i64 r.v) ∧ w.cell? ⟨B, 4, none⟩ = some (.int .i64 r.tier) ∧ w.cell? ⟨B, 5, none⟩ = some (.int .i64 r.c) ∧ w.cell? ⟨B, 6, none⟩ = some (.int .i64 r.st) ∧ w.cell? ⟨B, 7, none⟩ = some (.int .i64 r.q) ∧ w.cell? ⟨B, 8, none⟩ = some d
theorem recAt_new (w : World) (r : Rec) (d : Value) (T : TypeId) : RecAt (w.alloc (.cells #[.int .i64 r.k, .string r.s, .int .i64 r.t, .int .i64 r.v, .int .i64 r.tier, .int .i64 r.c, .int .i64 r.st, .int .i64 r.q, d] T)) w.heap.size r d := by
  refine ⟨?_, ?_, ?_, ?_, ?_, ?_, ?_, ?_, ?_⟩ <;> exact cell_of_row _ w.heap.size _ _ _ _ (heap_alloc_new w _)
theorem RecAt.gr {w w1 : World} {B : Nat} {r : Rec} {d : Value} (h : RecAt w B r d) (hg : Gr w w1) : RecAt w1 B r d :=
  ⟨keepc hg h.1, keepc hg h.2.1, keepc hg h.2.2.1, keepc hg h.2.2.2.1, keepc hg h.2.2.2.2.1, keepc hg h.2.2.2.2.2.1, keepc hg h.2.2.2.2.2.2.1, keepc hg h.2.2.2.2.2.2.2.1, keepc hg h.2.2.2.2.2.2.2.2⟩
set_option maxRecDepth 100000 in
set_option maxHeartbeats 2000000 in
theorem rsame6_calls (a b : Rec) (d1 d2 : Value) (w : World) (h1 : rdRow w 1 d1 a.d.length (encI a.d)) (h2 : rdRow w 1 d2 b.d.length (encI b.d)) (hk : a.d.length ≤ 1000000) :
    Calls Try.prog 14 #[recV a d1, recV b d2] w fun e w' => ∃ r, e = .returned (.bool r) ∧ (a = b → r = true) ∧ Gr w w' := by
  have Hs := Lib.hid (fun W hg => same_calls d1 d2 a.d b.d W (h1.gr hg) (h2.gr hg) hk)
  unfold recV
  clear h1 h2
  go_enter Try.func14, Try.ntmps14
  go_wp2_with fail
  refine (Hs.out _ ?_).mono ?_
  · (repeat (first | exact Gr.rfl' | refine Gr.al ?_ _ | refine Gr.dr ?_ | refine Gr.drN ?_ | refine Gr.sc ?_ (by simp <;> omega) _ | refine Gr.tr ?_ (by assumption)))
  rintro e w1 ⟨rfl, hb⟩
  have hA := ((recAt_new w a d1 33).gr ((Gr.rfl'.al _).tr hb))
  have hB := ((recAt_new (w.alloc (.cells #[.int .i64 a.k, .string a.s, .int .i64 a.t, .int .i64 a.v, .int .i64 a.tier, .int .i64 a.c, .int .i64 a.st, .int .i64 a.q, d1] 33)) b d2 33).gr hb)
  have hz : (w.alloc (.cells #[.int .i64 a.k, .string a.s, .int .i64 a.t, .int .i64 a.v, .int .i64 a.tier, .int .i64 a.c, .int .i64 a.st, .int .i64 a.q, d1] 33)).heap.size = w.heap.size + 1 := by simp
  rw [hz] at hB
  have HG := Lib.hid (show Gr w w1 from Gr.tr (by (repeat (first | exact Gr.rfl' | refine Gr.al ?_ _ | refine Gr.dr ?_ | refine Gr.drN ?_ | refine Gr.sc ?_ (by simp <;> omega) _ | refine Gr.tr ?_ (by assumption)))) hb)
  obtain ⟨a0, a1, a2, a3, a4, a5, a6, a7, a8⟩ := hA
  obtain ⟨b0, b1, b2, b3, b4, b5, b6, b7, b8⟩ := hB
  clear hb hz
  have hcs : (decide (a.d = b.d) = false ∧ ¬ a = b) ∨ (decide (a.d = b.d) = true ∧ (a.k == b.k) = false ∧ ¬ a = b) ∨ (decide (a.d = b.d) = true ∧ (a.k == b.k) = true ∧ (a.s.toList == b.s.toList) = false ∧ ¬ a = b) ∨ (decide (a.d = b.d) = true ∧ (a.k == b.k) = true ∧ (a.s.toList == b.s.toList) = true ∧ (a.t == b.t) = false ∧ ¬ a = b) ∨ (decide (a.d = b.d) = true ∧ (a.k == b.k) = true ∧ (a.s.toList == b.s.toList) = true ∧ (a.t == b.t) = true ∧ (a.v == b.v) = false ∧ ¬ a = b) ∨ (decide (a.d = b.d) = true ∧ (a.k == b.k) = true ∧ (a.s.toList == b.s.toList) = true ∧ (a.t == b.t) = true ∧ (a.v == b.v) = true ∧ (a.tier == b.tier) = false ∧ ¬ a = b) ∨ (decide (a.d = b.d) = true ∧ (a.k == b.k) = true ∧ (a.s.toList == b.s.toList) = true ∧ (a.t == b.t) = true ∧ (a.v == b.v) = true ∧ (a.tier == b.tier) = true) := by
    by_cases e : a = b
    · subst e; simp
    · cases decide (a.d = b.d) <;> cases (a.k == b.k) <;> cases (a.s.toList == b.s.toList) <;> cases (a.t == b.t) <;> cases (a.v == b.v) <;> cases (a.tier == b.tier) <;> simp [e]
  rcases hcs with ⟨h1, hn⟩ | ⟨h1, h2, hn⟩ | ⟨h1, h2, h3, hn⟩ | ⟨h1, h2, h3, h4, hn⟩ | ⟨h1, h2, h3, h4, h5, hn⟩ | ⟨h1, h2, h3, h4, h5, h6, hn⟩ | ⟨h1, h2, h3, h4, h5, h6⟩
  case' inr.inr.inr.inr.inr.inr =>
    have Hx := Lib.hid (show True from trivial)
  all_goals
    rw [h1]
    clear h1
    first
      | (have Hn := Lib.hid hn
         clear hn
         go_wp2_with fail
         go_ret
         exact ⟨_, rfl, fun e => absurd e Hn.out, HG.out⟩)
      | skip
  have HG2 := Lib.hid HG.out
  go_wp2_with fail
  all_goals
    go_ret
    exact ⟨_, rfl, fun e => by subst e; first | rfl | (simp; done) | simp_all, HG2.out⟩
end Go.Proofs.Ytnneebdcaefgoaa

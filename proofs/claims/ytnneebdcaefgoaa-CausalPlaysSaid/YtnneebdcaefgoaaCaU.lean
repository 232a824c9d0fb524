/- The reference's log: New. -/
import Derived.Test.YtnneebdcaefgoaaCaQ
namespace Go.Proofs.Ytnneebdcaefgoaa
open Go.RowKit

set_option maxHeartbeats 1000000 in
theorem log_new (room : Int) (v : Value) (l : List Int) (w : World) (hv : rdRow w 1 v l.length (encI l)) (hk : l.length ≤ 1000000) :
    Calls Try.prog 30 #[.int .i64 room, v] w fun e w' => ∃ p bv, e = .returned (.pointer (some ⟨p, 0, none⟩)) ∧ w.heap.size ≤ p ∧ w'.heap[p]? = some (.cells #[.int .i64 (roomOf room), bv, .slice none 0 0, .int .i64 0] 64 (0, 0)) ∧ rdX (fun k => k = p) w' bv (plainV l) ∧ Gr w w' := by
  have H := Lib.hid (rplain_calls v l w hv hk)
  have hcs : (room < 0 ∧ roomOf room = 0) ∨ (¬ room < 0 ∧ 400 < room ∧ roomOf room = 400) ∨ (¬ room < 0 ∧ ¬ 400 < room ∧ roomOf room = room) := by
    unfold roomOf mn mx; split <;> split <;> omega
  clear hv
  rcases hcs with ⟨h1, hr⟩ | ⟨h1, h2, hr⟩ | ⟨h1, h2, hr⟩
  all_goals
    rw [hr]
    clear hr
    go_enter Try.func30, Try.ntmps30
    go_wp2_with fail
    refine H.out.mono ?_
    rintro e w1 ⟨v1, rfl, ho, hb⟩
    have Ho := Lib.hid (rdX_below (rdRow_of_own ho)); have Hb := Lib.hid hb
    obtain ⟨a1, c1, rfl⟩ := own_slice ho
    clear ho hb
    go_wp2_with fail
    go_ret
    exact ⟨w1.heap.size, _, rfl, Hb.out.size, heap_alloc_new w1 _, (Ho.out.gr (Gr.al Gr.rfl' _)).mono (fun k hk => by rw [hk]; exact Nat.le_refl _), Gr.al Hb.out _⟩
end Go.Proofs.Ytnneebdcaefgoaa

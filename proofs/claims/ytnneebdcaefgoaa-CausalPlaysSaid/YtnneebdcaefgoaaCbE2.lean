/- A list of records, plain; New beside what was there. -/
import Derived.Test.YtnneebdcaefgoaaCbE
namespace Go.Proofs.Ytnneebdcaefgoaa
open Go.RowKit Go.Maps
attribute [local go_sem] max2_mx min2_mn max_two' min_two'

theorem wrap_id {x : Int} (h : I64 x) : IntKind.i64.wrap x = x := by unfold I64 at h; simp [IntKind.wrap, IntKind.bits, IntKind.signed]; omega
/-- What is held by whom. -/
def keyF (l : List Rec) (s q : Int) : Option Rec := l.find? fun r => decide (r.st = s ∧ r.q = q)
theorem keyF_some {l : List Rec} {s q : Int} {r : Rec} (h : keyF l s q = some r) : r.st = s ∧ r.q = q ∧ ∃ (j : Nat) (hj : j < l.length), l[j] = r := by
  have h1 := List.find?_some h
  have h2 := List.mem_of_find?_eq_some h
  simp only [decide_eq_true_eq] at h1
  obtain ⟨j, hj, e⟩ := List.getElem_of_mem h2
  exact ⟨h1.1, h1.2, j, hj, e⟩
def recsOf (L : List (Rec × Value)) : List Rec := L.map (·.1)
theorem recsOf_len (L : List (Rec × Value)) : (recsOf L).length = L.length := List.length_map ..
theorem recsOf_get (L : List (Rec × Value)) (i : Nat) (h : i < (recsOf L).length) : (recsOf L)[i] = (L[i]'(by rw [recsOf_len] at h; exact h)).1 := List.getElem_map ..
set_option maxHeartbeats 1000000 in
theorem new_x (room : Int) (v : Value) (l : List Int) (w : World) (hv : rdRow w 1 v l.length (encI l)) (hk : l.length ≤ 1000000) :
    Calls Try.prog 10 #[.int .i64 room, v] w fun e w' => ∃ p, e = .returned (.pointer (some ⟨p, 0, none⟩)) ∧ w.heap.size ≤ p ∧ BufX (fun k => Fresh w k ∨ k = p) w' p none (bufNew room l) ∧ Gr w w' := by
  have hnil : rdRow w 1 (.slice none 0 0) ([] : List Int).length (encI []) := ⟨rfl, none, 0, rfl, Nat.le_refl _, fun h => by simp at h⟩
  have H := Lib.hid (join_calls v (.slice none 0 0) l [] w hv hnil hk (by simp))
  clear hv hnil
  go_enter Try.func10, Try.ntmps10
  go_wp2_with fail
  refine H.out.mono ?_
  rintro e w1 ⟨v1, rfl, ho, hb⟩
  have Ho := Lib.hid ho; have Hb := Lib.hid hb
  obtain ⟨⟨_, a1, c1, rfl, _⟩, _⟩ := ho
  clear hb
  go_wp2_with fail
  go_ret
  exact ⟨w1.heap.size, rfl, Hb.out.size, ⟨by simp, (fun b e => by cases e), _, fun _ _ => none, heap_alloc_new w1 _, (Ho.out.wid (Y := fun k => Fresh w k ∨ k = w1.heap.size) (fun k hk => hk.imp id (fun e => by omega))).gr (Gr.al Gr.rfl' _), .inl ⟨rfl, rfl, fun _ _ => rfl⟩, fun s q => ⟨fun _ => rfl, fun r e => by cases e⟩⟩, Gr.al Hb.out _⟩
end Go.Proofs.Ytnneebdcaefgoaa

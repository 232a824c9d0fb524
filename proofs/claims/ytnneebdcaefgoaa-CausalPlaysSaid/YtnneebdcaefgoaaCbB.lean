/- The buffer: what Next answers, as a function; of none nothing comes; two buffers side by side. -/
import Derived.Test.YtnneebdcaefgoaaCbA
import Derived.Test.YtnneebdcaefgoaaCaX
import Derived.Test.YtnneebdcaefgoaaCaS
namespace Go.Proofs.Ytnneebdcaefgoaa
open Go.RowKit Go.Maps

def nextAll (B : Buf) : Option (Nat × Rec) := (List.range 8).findSome? fun j => (nextOf B (j : Nat)).map (Prod.mk j)
theorem findSome_none {α : Type} (f : Nat → Option α) (n : Nat) (hn : ∀ j, j < n → f j = none) : (List.range n).findSome? (fun j => (f j).map (Prod.mk j)) = none := by
  rw [List.findSome?_eq_none_iff]
  intro j hj
  rw [hn j (List.mem_range.1 hj)]; rfl
theorem findSome_first {α : Type} (f : Nat → Option α) (n k : Nat) (a : α) (hk : k < n) (hn : ∀ j, j < k → f j = none) (h : f k = some a) : (List.range n).findSome? (fun j => (f j).map (Prod.mk j)) = some (k, a) := by
  have e : List.range n = List.range k ++ (k :: List.range' (k + 1) (n - k - 1)) := by
    rw [List.range_eq_range', List.range_eq_range', ← List.range'_succ, show n - k - 1 + 1 = n - k by omega]
    have := List.range'_append_1 (s := 0) (m := k) (n := n - k)
    rw [Nat.zero_add, show k + (n - k) = n by omega] at this
    exact this.symm
  rw [e, List.findSome?_append, findSome_none f k hn, Option.none_or, List.findSome?_cons, h]
  rfl
/-- Next, told by the function. -/
def NextIs (E : Nat → Prop) (w : World) (p : Nat) (mb : Option Nat) (B : Buf) (e : Ending) (w' : World) : Option (Nat × Rec) → Prop
  | some (k, r) => ∃ d, e = .returned (.tuple #[recV r d, .bool true]) ∧ rdX (fun b => BX p mb b ∨ E b) w' d r.d ∧ BufE E w' p mb (takeB B k r) ∧ Bt (BX p mb) w w'
  | none => e = .returned (.tuple #[recV noRec (.slice none 0 0), .bool false]) ∧ Gr w w'
theorem next_is {E : Nat → Prop} {w : World} {p : Nat} {mb : Option Nat} {B : Buf} {e : Ending} {w' : World} (h : NextPost E w p mb B e w') : NextIs E w p mb B e w' (nextAll B) := by
  rcases h with ⟨k, r, d, hk, hn, hs, he, h1, h2, h3⟩ | ⟨hn, he, hg⟩
  · unfold nextAll
    rw [findSome_first _ 8 k r hk hn hs]
    exact ⟨d, he, h1, h2, h3⟩
  · unfold nextAll
    rw [findSome_none _ 8 hn]
    exact ⟨he, hg⟩
theorem other {w w' : World} {p1 p2 : Nat} {mb1 mb1' mb2 : Option Nat} {B : Buf} (h : BufX (fun k => BX p1 mb1 k ∨ BX p2 mb2 k) w p2 mb2 B) (hb : Bt (BX p1 mb1) w w') (hm : SameMap w mb1 mb1') (hd : ∀ k, BX p1 mb1 k → ¬ BX p2 mb2 k) :
    BufX (fun k => BX p1 mb1' k ∨ BX p2 mb2 k) w' p2 mb2 B ∧ (∀ k, BX p1 mb1' k → ¬ BX p2 mb2 k) := by
  have hb2 : ∀ k, BX p2 mb2 k → k < w.heap.size := fun k hk => by
    rcases hk with rfl | hk
    · exact h.1
    · exact (h.2.1 _ hk).1
  have hsub : ∀ k, BX p1 mb1' k → BX p1 mb1 k ∨ w.heap.size ≤ k := fun k hk => by
    rcases hm with rfl | ⟨_, b, rfl, hbz⟩
    · exact .inl hk
    · rcases hk with hk | hk
      · exact .inl (.inl hk)
      · injection hk with hk; exact .inr (by omega)
  have h1 := (h.wid (Y := fun k => (BX p1 mb1 k ∨ BX p2 mb2 k) ∨ w.heap.size ≤ k) (fun k hk => hk)).bt hb (fun k hk => .inl (.inl hk)) hd
  refine ⟨h1.wid (fun k hk => .inl ?_), fun k hk hz => ?_⟩
  · rcases hk with hk | hk
    · exact (hsub k hk).imp .inl id
    · exact .inl (.inr hk)
  · rcases hsub k hk with h5 | h5
    · exact hd k h5 hz
    · have := hb2 k hz; omega
set_option maxRecDepth 100000 in
theorem offer_nil (r : Rec) (d : Value) (w : World) : Calls Try.prog 11 #[.pointer none, recV r d] w fun e w' => e = .returned (.int .i64 3) ∧ Gr w w' := by
  rw [recV_agg]
  unfold recC
  go_enter Try.func11, Try.ntmps11
  go_wp2_with fail
  go_ret
  exact ⟨rfl, by (with_reducible (repeat (first | assumption | exact Gr.rfl' | refine Gr.al ?_ _ | refine Gr.dr ?_ | refine Gr.drN ?_ | refine Gr.sc ?_ (by simp <;> omega) _)))⟩
set_option maxRecDepth 100000 in
theorem next_nil (w : World) : Calls Try.prog 12 #[.pointer none] w fun e w' => e = .returned (.tuple #[recV noRec (.slice none 0 0), .bool false]) ∧ Gr w w' := by
  go_enter Try.func12, Try.ntmps12
  go_wp2_with fail
  obtain ⟨W0, e0, g0, b0, s0⟩ := al_out w (.cells #[.int .i64 0, .string ⟨#[]⟩, .int .i64 0, .int .i64 0, .int .i64 0, .int .i64 0, .int .i64 0, .int .i64 0, .slice none 0 0] 33)
  rw [e0]
  obtain ⟨A2, eA2⟩ : ∃ A, w.heap.size = A := ⟨_, rfl⟩
  rw [eA2] at b0 s0 ⊢
  go_wp2_with fail
  go_step3
  go_wp2_with (first | (refine wpList_store_blk rfl 33 (.tmp 2) (.tmp 9) rfl A2 (recC noRec (.slice none 0 0)) rfl rfl _ _ b0 rfl info_rec (one_rec _ _ rfl) (fun w7 b7 g7 s7 => ?_)))
  rw [Exit.noGoto_ret]
  exact bodyPost_ret (results_cell_tmp rfl _ _ A2 _ (recC noRec (.slice none 0 0)) (0, 0) _ rfl b7 Try.underlying33 rfl info_rec) rfl ⟨rfl, gr_new g0 g7 (by rw [eA2]; exact Nat.le_refl _)⟩
theorem out_nil (w : World) : Calls Try.prog 13 #[.pointer none] w fun e w' => e = .returned (.slice none 0 0) ∧ w = w' := by
  go_enter Try.func13, Try.ntmps13
  go_wp2_with fail
  go_ret
  exact ⟨rfl, rfl⟩
theorem len_nil' (w : World) : Calls Try.prog 16 #[.pointer none] w fun e w' => e = .returned (.int .i64 0) ∧ w = w' := by
  go_enter Try.func16, Try.ntmps16
  go_wp2_with fail
  go_ret
  exact ⟨rfl, rfl⟩
theorem lacks_nil (w : World) : Calls Try.prog 22 #[.pointer none] w fun e w' => e = .returned (.slice none 0 0) ∧ w = w' := by
  go_enter Try.func22, Try.ntmps22
  go_wp2_with fail
  go_ret
  exact ⟨rfl, rfl⟩
theorem sure_nil (w : World) : Calls Try.prog 18 #[.pointer none] w fun e w' => e = .returned (.slice none 0 0) ∧ w = w' := by
  go_enter Try.func18, Try.ntmps18
  go_wp2_with (go_at_call 13; refine (out_nil _).mono ?_; rintro e w1 ⟨rfl, rfl⟩)
  go_ret
  exact ⟨rfl, rfl⟩
end Go.Proofs.Ytnneebdcaefgoaa

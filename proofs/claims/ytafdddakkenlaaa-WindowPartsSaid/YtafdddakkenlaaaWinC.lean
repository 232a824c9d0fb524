import Derived.Test.YtafdddakkenlaaaWinB
import Derived.BigFrame
namespace Go.Proofs.Ytafdddakkenlaaa
open Go.RowKit
attribute [local go_sem] max2_mx min2_mn max_two' min_two'

def wCover (s : Int × Int) (k : Int) : Int × Int :=
  if wMay s k = false ∨ s.1 = 1099511627777 then (0, 0) else if s.1 = s.2 then (wStart s.1 k, wStart s.1 k) else (wStart s.1 k, (wOf (s.2 - 1) k).2)

theorem field26_1 (x y : Int) (w : World) : (Instr.field 26 (.agg #[.int .i64 x, .int .i64 y]) 1).run Try.prog w = .ok (.int .i64 y) w := by kernel_rfl
theorem field26_0 (x y : Int) (w : World) : (Instr.field 26 (.agg #[.int .i64 x, .int .i64 y]) 0).run Try.prog w = .ok (.int .i64 x) w := by kernel_rfl

theorem store26 (w : World) (b : Nat) (x y : Int) (ht : w.there b 0 2) : (Instr.storeAt 26 (.pointer (some ⟨b, 0, none⟩)) (.agg #[.int .i64 x, .int .i64 y])).run Try.prog w = .ok () ((w.setCell ⟨b, 0, none⟩ (.int .i64 x)).setCell ⟨b, 1, none⟩ (.int .i64 y)) :=
  store_two (by kernel_rfl) w b _ _ rfl rfl ht

attribute [local go_sem ↓] field26_0 field26_1

set_option maxHeartbeats 1000000 in
theorem cover_calls (a b k : Int) (w : World) :
    Calls Try.prog 28 #[.agg #[.int .i64 a, .int .i64 b], .int .i64 k] w fun e w' => e = .returned (.agg #[.int .i64 (wCover (a, b) k).1, .int .i64 (wCover (a, b) k).2]) ∧ Gr w w' := by
  have hr : wCover (a, b) k = if wMay (a, b) k = false ∨ a = 1099511627777 then (0, 0) else if a = b then (wStart a k, wStart a k) else (wStart a k, (wOf (b - 1) k).2) := rfl
  rw [hr]; clear hr
  cases h1 : wMay (a, b) k
  · rw [if_pos (.inl rfl)]
    go_enter Try.func28, Try.ntmps28
    go_wp2_with (first | (go_at_call 44; refine (may_calls _ _ _ _).mono ?_; rintro e w1 ⟨rfl, hb⟩; obtain ⟨hc, hf⟩ := bcell hb; have hz := hb.size; (try simp at hz); have z0 : w.heap.size < w1.heap.size := (by omega); have z1 : w.heap.size + 1 < w1.heap.size := (by omega)))
    exact bodyPost_ret (v := .agg #[.int .i64 0, .int .i64 0]) (by simp [results, Try.results28, go_sem, *]) rfl ⟨rfl, by (repeat (first | exact Gr.rfl' | refine Gr.al ?_ _ | refine Gr.dr ?_ | refine Gr.drN ?_ | refine Gr.sc ?_ (by simp <;> omega) _ | refine Gr.tr ?_ (by assumption)))⟩
  · obtain ⟨b1, b2, b3, b4⟩ := wMay_t h1
    by_cases h2 : a = 1099511627777
    · rw [if_pos (.inr h2)]
      have h2b : (a == 1099511627777) = true := by simp [h2]
      clear h2
      go_enter Try.func28, Try.ntmps28
      go_wp2_with (first | (go_at_call 44; refine (may_calls _ _ _ _).mono ?_; rintro e w1 ⟨rfl, hb⟩; obtain ⟨hc, hf⟩ := bcell hb; have hz := hb.size; (try simp at hz); have z0 : w.heap.size < w1.heap.size := (by omega); have z1 : w.heap.size + 1 < w1.heap.size := (by omega)))
      exact bodyPost_ret (v := .agg #[.int .i64 0, .int .i64 0]) (by simp [results, Try.results28, go_sem, *]) rfl ⟨rfl, by (repeat (first | exact Gr.rfl' | refine Gr.al ?_ _ | refine Gr.dr ?_ | refine Gr.drN ?_ | refine Gr.sc ?_ (by simp <;> omega) _ | refine Gr.tr ?_ (by assumption)))⟩
    · rw [if_neg (by simp [h2])]
      have h2b : (a == 1099511627777) = false := by simp [h2]
      clear h2
      by_cases h3 : a = b
      · rw [if_pos h3]
        have h3b : (a == b) = true := by simp [h3]
        clear h3
        go_enter Try.func28, Try.ntmps28
        go_wp2_with (first | (go_at_call 44; refine (may_calls _ _ _ _).mono ?_; rintro e w1 ⟨rfl, hb⟩; obtain ⟨hc, hf⟩ := bcell hb; have hz := hb.size; (try simp at hz); have z0 : w.heap.size < w1.heap.size := (by omega); have z1 : w.heap.size + 1 < w1.heap.size := (by omega)) | (go_at_call 13; refine (start_calls _ _ _).mono ?_; rintro e w' ⟨rfl, rfl⟩))
        exact bodyPost_ret (v := .agg #[.int .i64 (wStart a k), .int .i64 (wStart a k)]) (by simp [results, Try.results28, go_sem, *]) rfl ⟨rfl, by (repeat (first | exact Gr.rfl' | refine Gr.al ?_ _ | refine Gr.dr ?_ | refine Gr.drN ?_ | refine Gr.sc ?_ (by simp <;> omega) _ | refine Gr.tr ?_ (by assumption)))⟩
      · rw [if_neg h3]
        have h3b : (a == b) = false := by simp [h3]
        have h3c : a < b := by omega
        clear h3
        go_enter Try.func28, Try.ntmps28
        go_wp2_with (first | (go_at_call 44; refine (may_calls _ _ _ _).mono ?_; rintro e w1 ⟨rfl, hb⟩; obtain ⟨hc, hf⟩ := bcell hb; have hz := hb.size; (try simp at hz); have z0 : w.heap.size < w1.heap.size := (by omega); have z1 : w.heap.size + 1 < w1.heap.size := (by omega)))
        have cA : w1.cell? ⟨w.heap.size, 0, none⟩ = some (.int .i64 a) := by rw [hc _ _ (by simp <;> omega)]; simp
        have cB : w1.cell? ⟨w.heap.size, 1, none⟩ = some (.int .i64 b) := by rw [hc _ _ (by simp <;> omega)]; simp
        have cC := cv_of (w := w1) (b := w.heap.size + 1) (o := 0) (by rw [hc _ _ (by simp <;> omega)]; simp)
        have cD := cv_of (w := w1) (b := w.heap.size + 1) (o := 1) (by rw [hc _ _ (by simp <;> omega)]; simp)
        have fC : w1.frozen? ⟨w.heap.size + 1, 0, none⟩ = false := by rw [hf _ _ (by simp <;> omega)]; simp
        have fD : w1.frozen? ⟨w.heap.size + 1, 1, none⟩ = false := by rw [hf _ _ (by simp <;> omega)]; simp
        clear hc hf
        have hw1 : IntKind.i64.wrap (b - 1) = b - 1 := IntWalk.i64_in _ (by omega)
        go_region_held3 (fun w' => w'.cell? ⟨w.heap.size, 0, none⟩ = some (.int .i64 a) ∧ w'.cell? ⟨w.heap.size, 1, none⟩ = some (.int .i64 b) ∧ w'.cell? ⟨w.heap.size + 1, 0, none⟩ = some (cv w' (w.heap.size + 1) 0) ∧ w'.cell? ⟨w.heap.size + 1, 1, none⟩ = some (cv w' (w.heap.size + 1) 1) ∧ w'.frozen? ⟨w.heap.size + 1, 0, none⟩ = false ∧ w'.frozen? ⟨w.heap.size + 1, 1, none⟩ = false) ((with_reducible (repeat (first | assumption | refine And.intro ?_ ?_ | refine cv_dr ?_ | refine cv_sc _ _ ?_ | (rw [World.cell?_drew]; assumption) | (rw [World.frozen?_drew]; assumption) | (rw [World.frozen?_setCell]) | (refine cv_gr hb ?_; first | assumption | (refine cv_dr ?_; assumption)) | (refine keepc hb ?_; first | assumption | (rw [World.cell?_drew]; assumption)) | (refine keepf' hb ?_ ?_ <;> first | assumption | (refine cv_dr ?_; assumption) | (rw [World.frozen?_drew]; assumption)) | (rw [World.cell?_setCell_other _ _ _ _ (by simp)]))))) (first | (go_at_call 13; refine (start_calls _ _ _).mono ?_; rintro e w' ⟨rfl, rfl⟩) | (go_at_call 15; refine (of_calls _ _ _).mono ?_; rintro e w2 ⟨rfl, hb⟩; have q := set2 (.int .i64 (wStart a k)) (.int .i64 (wOf (b - 1) k).2) (cv_gr hb (cv_dr cC)) (cv_gr hb (cv_dr cD))))
        go_wp2
        exact bodyPost_ret (v := .agg #[.int .i64 (wStart a k), .int .i64 (wOf (b - 1) k).2]) (by simp [results, Try.results28, go_sem, q]) rfl ⟨rfl, by (repeat (first | exact Gr.rfl' | refine Gr.al ?_ _ | refine Gr.dr ?_ | refine Gr.drN ?_ | refine Gr.sc ?_ (by simp <;> omega) _ | refine Gr.tr ?_ (by assumption)))⟩
end Go.Proofs.Ytafdddakkenlaaa

/- The ring: how points are held against each other, and sorted. -/
import Derived.Test.YtomhdkppgfcaaaaRgA
import Derived.Test.YtomhdkppgfcaaaaUs
import Derived.Test.YtomhdkppgfcaaaaLa
namespace Go.Proofs.Ytomhdkppgfcaaaa
open Go.RowKit Go.Sort Go.Shelf

def cmpI (a b : Int) : Int := if a < b then -1 else if b < a then 1 else 0
theorem nanU_calls (a : Int) (w : World) : Calls Try.prog 39 #[.int .u64 a] w fun e w' => e = .returned (.bool false) ∧ w = w' := by
  go_enter Try.func39, Try.ntmps39
  go_wp2
  go_ret
  exact ⟨rfl, rfl⟩
theorem nanI_calls (a : Int) (w : World) : Calls Try.prog 40 #[.int .i64 a] w fun e w' => e = .returned (.bool false) ∧ w = w' := by
  go_enter Try.func40, Try.ntmps40
  go_wp2
  go_ret
  exact ⟨rfl, rfl⟩
theorem cmpU_calls (a b : Int) (w : World) : Calls Try.prog 29 #[.int .u64 a, .int .u64 b] w fun e w' => e = .returned (.int .i64 (cmpI a b)) ∧ w = w' := by
  go_enter Try.func29, Try.ntmps29
  go_wp2_with (go_at_call 39; refine (nanU_calls _ _).mono ?_; rintro e w' ⟨rfl, rfl⟩)
  all_goals
    go_ret
    exact ⟨ret_i rfl (by unfold cmpI; repeat' split
                         all_goals omega), rfl⟩
theorem cmpN_calls (a b : Int) (w : World) : Calls Try.prog 30 #[.int .i64 a, .int .i64 b] w fun e w' => e = .returned (.int .i64 (cmpI a b)) ∧ w = w' := by
  go_enter Try.func30, Try.ntmps30
  go_wp2_with (go_at_call 40; refine (nanI_calls _ _).mono ?_; rintro e w' ⟨rfl, rfl⟩)
  all_goals
    go_ret
    exact ⟨ret_i rfl (by unfold cmpI; repeat' split
                         all_goals omega), rfl⟩
def cOr (a b : Int) : Int := if a ≠ 0 then a else b
theorem or_calls (a b : Int) (g : Nat) (w : World) (h0 : w.cell? ⟨g, 0, none⟩ = some (.int .i64 a)) (h1 : w.cell? ⟨g, 1, none⟩ = some (.int .i64 b)) :
    Calls Try.prog 28 #[.slice (some ⟨g, 0, none⟩) 2 2] w fun e w' => e = .returned (.int .i64 (cOr a b)) ∧ w = w' := by
  have hr1 : a ≠ 0 → a = cOr a b := fun h => by simp [cOr, h]
  have hr2 : a = 0 → b = cOr a b := fun h => by simp [cOr, h]
  generalize cOr a b = r at *
  have Hr1 := Lib.hid hr1; have Hr2 := Lib.hid hr2; clear hr1 hr2
  go_enter Try.func28, Try.ntmps28
  go_wp2_with fail
  go_loopw [8] (fun i wr => w = wr ∧ (i = .int .i64 0 ∨ i = .int .i64 1 ∧ a = 0 ∨ i = .int .i64 2 ∧ a = 0 ∧ b = 0)) (fun i _ => 2 - (intOf i).toNat)
  case atStart => exact ⟨rfl, .inl rfl⟩
  case round =>
    obtain ⟨rfl, rfl | ⟨rfl, ha⟩ | ⟨rfl, ha, hb⟩⟩ := hrel
    · by_cases h : a = 0
      · have h' : (a == 0) = true := by simp [h]
        go_wp2_with fail
        go_roundw
        case rel => exact ⟨trivial, .inr (.inl ⟨rfl, h⟩)⟩
        case measure => simp [intOf]
      · have h' : (a == 0) = false := by simp [h]
        have e := Hr1.out h
        clear h
        go_wp2_with fail
        go_ret
        exact ⟨rfl, rfl⟩
    · have e := Hr2.out ha
      by_cases h : b = 0
      · have h' : (b == 0) = true := by simp [h]
        go_wp2_with fail
        go_roundw
        case rel => exact ⟨trivial, .inr (.inr ⟨rfl, ha, h⟩)⟩
        case measure => simp [intOf]
      · have h' : (b == 0) = false := by simp [h]
        clear h ha
        go_wp2_with fail
        go_ret
        exact ⟨rfl, rfl⟩
    · have e := Hr2.out ha
      rw [hb] at e
      go_wp2_with fail
      go_ret
      exact ⟨ret_i rfl e, rfl⟩
abbrev Pt := Int × Int
def cmpP (x y : Pt) : Int := cOr (cmpI x.1 y.1) (cmpI x.2 y.2)
theorem less_calls (x y : Pt) (W : World) :
    Calls Try.prog 27 #[.agg #[.int .u64 x.1, .int .i64 x.2], .agg #[.int .u64 y.1, .int .i64 y.2]] W fun e w' => e = .returned (.int .i64 (cmpP x y)) ∧ ∃ q os', w' = grow (W.drewN q) os' := by
  obtain ⟨a, b⟩ := x
  obtain ⟨c, d⟩ := y
  have hr : cOr (cmpI a c) (cmpI b d) = cmpP (a, b) (c, d) := rfl
  have Hr := Lib.hid hr; clear hr
  go_enter Try.func27, Try.ntmps27
  go_wp2_with fail
  go_region_held3 (fun w' => w'.cell? ⟨W.heap.size, 0, none⟩ = some (.int .u64 a) ∧ w'.cell? ⟨W.heap.size, 1, none⟩ = some (.int .i64 b) ∧ w'.cell? ⟨W.heap.size + 1, 0, none⟩ = some (.int .u64 c) ∧ w'.cell? ⟨W.heap.size + 1, 1, none⟩ = some (.int .i64 d)) (first | (go_keep; done) | (simp [*]; done))
    (first
      | (go_at_call 29; refine (cmpU_calls _ _ _).mono ?_; rintro e w' ⟨rfl, rfl⟩)
      | (go_at_call 30; refine (cmpN_calls _ _ _).mono ?_; rintro e w' ⟨rfl, rfl⟩)
      | (go_at_call 28; refine (or_calls _ _ _ _ (by rw [World.cell?_drew]; exact cells_at _ (by simp) 0 _ rfl) (by rw [World.cell?_drew]; exact cells_at _ (by simp) 1 _ rfl)).mono ?_; rintro e w' ⟨rfl, rfl⟩)
      | fail)
  all_goals
    go_wp2_with fail
    go_ret
    exact ⟨ret_i rfl Hr.out, 1, _, by rw [alloc_eq_grow, alloc_eq_grow, alloc_eq_grow, grow_grow, grow_grow]; rfl⟩
end Go.Proofs.Ytomhdkppgfcaaaa

/- The law QuorumNil. -/
import Derived.Test.YtpnpnjfflblkpaaQwM
namespace Go.Proofs.Ytpnpnjfflblkpaa
open Go.RowKit Go.Maps Go.Sort Go.Shelf

theorem rd_nil {w : World} {k : Nat} : rdRow w k (.slice none 0 0) 0 [] := ⟨by simp, none, 0, rfl, Nat.le_refl _, fun h => absurd h (by decide)⟩
theorem zero_w (w : World) : WrAt (w.alloc (.cells #[.int .i64 0, .slice none 0 0, .map none] 66)) w.heap.size 0 (.slice none 0 0) [] none [] := by
  have hb := heap_alloc_new w (.cells #[.int .i64 0, .slice none 0 0, .map none] 66)
  refine ⟨(cell_of_row _ _ 0 _ _ _ hb).trans rfl, (cell_of_row _ _ 1 _ _ _ hb).trans rfl, (cell_of_row _ _ 2 _ _ _ hb).trans rfl, rd_nil, ?_, (fun k hk => by cases hk), (fun h => absurd h (by decide)), (fun k hk => by cases hk)⟩
  have : haveF [] = fun _ => none := by funext k; simp [haveF]
  rw [this]; exact ImAt.nil
theorem zero_r (w : World) : RdAt (w.alloc (.cells #[.int .i64 0, .slice none 0 0, .map none, .map none] 69)) w.heap.size 0 (.slice none 0 0) [] none none [] (fun _ => .slice none 0 0) (fun _ => []) := by
  have hb := heap_alloc_new w (.cells #[.int .i64 0, .slice none 0 0, .map none, .map none] 69)
  refine ⟨⟨(cell_of_row _ _ 0 _ _ _ hb).trans rfl, (cell_of_row _ _ 1 _ _ _ hb).trans rfl, (cell_of_row _ _ 2 _ _ _ hb).trans rfl, rd_nil, ?_, (fun k hk => by cases hk), (fun h => absurd h (by decide)), (fun k hk => by cases hk)⟩, ⟨(cell_of_row _ _ 3 _ _ _ hb).trans rfl, ?_, fun _ => rd_nil, fun _ _ => rfl, (fun h => absurd h (by decide))⟩, fun b h => by cases h⟩
  · have : haveF [] = fun _ => none := by funext k; simp [haveF]
    rw [this]; exact ImAt.nil
  · have : gotF [] (fun _ => Value.slice none 0 0) = fun _ => none := by funext k; simp [gotF]
    rw [this]; exact ImAt.nil
set_option maxRecDepth 100000 in
set_option maxHeartbeats 8000000 in
theorem nil_law (n : Int) (hn : I64 n) (w : World) : Calls Try.prog 7 #[.int .i64 n] w fun e w' => e = .returned (.bool true) ∧ Gr w w' := by
  go_enter Try.func7, Try.ntmps7
  go_wp2_with fail
  obtain ⟨w0, e0⟩ : ∃ w0, w.alloc (.cells #[.int .i64 0, .slice none 0 0, .map none] 66) = w0 := ⟨_, rfl⟩
  have hx := zero_w w
  have g0 : Gr w w0 := by rw [← e0]; exact Gr.al Gr.rfl' _
  rw [e0] at hx
  rw [e0]
  have hs0 : w0.heap.size = w.heap.size + 1 := by rw [← e0]; simp
  have hy := zero_r w0
  have g1 : Gr w0 (w0.alloc (.cells #[.int .i64 0, .slice none 0 0, .map none, .map none] 69)) := Gr.al Gr.rfl' _
  rw [hs0] at hy
  have HX := Lib.hid (hx.gr g1); have HY := Lib.hid hy; have G := Lib.hid (g0.tr g1)
  clear hx hy g0 g1 e0 hs0
  generalize w0.alloc (.cells #[.int .i64 0, .slice none 0 0, .map none, .map none] 69) = w1 at *
  obtain ⟨p, ep⟩ : ∃ p, w.heap.size = p := ⟨_, rfl⟩
  rw [ep] at HX HY ⊢
  clear ep
  refine (awake_calls _).mono ?_
  rintro e wx ⟨rfl, hgx⟩
  replace HX := Lib.hid (HX.out.gr hgx); replace HY := Lib.hid (HY.out.gr hgx); replace G := Lib.hid (G.out.tr hgx)
  clear hgx
  go_wp2_with fail
  refine (wack_nil n _).mono ?_
  rintro e wx ⟨rfl, hgx⟩
  replace HX := Lib.hid (HX.out.gr hgx); replace HY := Lib.hid (HY.out.gr hgx); replace G := Lib.hid (G.out.tr hgx)
  clear hgx
  go_wp2_with fail
  refine (wdone_nil _).mono ?_
  rintro e wx ⟨rfl, hgx⟩
  replace HX := Lib.hid (HX.out.gr hgx); replace HY := Lib.hid (HY.out.gr hgx); replace G := Lib.hid (G.out.tr hgx)
  clear hgx
  go_wp2_with fail
  refine (whave_nil _).mono ?_
  rintro e wx ⟨rfl, hgx⟩
  replace HX := Lib.hid (HX.out.gr hgx); replace HY := Lib.hid (HY.out.gr hgx); replace G := Lib.hid (G.out.tr hgx)
  clear hgx
  go_wp2_with fail
  refine (wmissing_nil _).mono ?_
  rintro e wx ⟨rfl, hgx⟩
  replace HX := Lib.hid (HX.out.gr hgx); replace HY := Lib.hid (HY.out.gr hgx); replace G := Lib.hid (G.out.tr hgx)
  clear hgx
  go_wp2_with fail
  refine (ranswer_nil n _ _).mono ?_
  rintro e wx ⟨rfl, hgx⟩
  replace HX := Lib.hid (HX.out.gr hgx); replace HY := Lib.hid (HY.out.gr hgx); replace G := Lib.hid (G.out.tr hgx)
  clear hgx
  go_wp2_with fail
  refine (rdone_nil _).mono ?_
  rintro e wx ⟨rfl, hgx⟩
  replace HX := Lib.hid (HX.out.gr hgx); replace HY := Lib.hid (HY.out.gr hgx); replace G := Lib.hid (G.out.tr hgx)
  clear hgx
  go_wp2_with fail
  refine (rhave_nil _).mono ?_
  rintro e wx ⟨rfl, hgx⟩
  replace HX := Lib.hid (HX.out.gr hgx); replace HY := Lib.hid (HY.out.gr hgx); replace G := Lib.hid (G.out.tr hgx)
  clear hgx
  go_wp2_with fail
  refine (rmissing_nil _).mono ?_
  rintro e wx ⟨rfl, hgx⟩
  replace HX := Lib.hid (HX.out.gr hgx); replace HY := Lib.hid (HY.out.gr hgx); replace G := Lib.hid (G.out.tr hgx)
  clear hgx
  go_wp2_with fail
  refine (rmerged_nil _).mono ?_
  rintro e wx ⟨rfl, hgx⟩
  replace HX := Lib.hid (HX.out.gr hgx); replace HY := Lib.hid (HY.out.gr hgx); replace G := Lib.hid (G.out.tr hgx)
  clear hgx
  go_wp2_with fail
  refine (rrepair_nil n _).mono ?_
  rintro e wx ⟨rfl, hgx⟩
  replace HX := Lib.hid (HX.out.gr hgx); replace HY := Lib.hid (HY.out.gr hgx); replace G := Lib.hid (G.out.tr hgx)
  clear hgx
  go_wp2_with fail
  refine (ack_calls _ p 0 _ [] none [] HX.out (by decide) (by decide) n hn).mono ?_
  rintro e wy ⟨rfl, hax, hbx⟩
  have hgx := hbx.gr Gr.rfl' (fun k e => by cases e)
  replace HX := Lib.hid (HX.out.gr hgx); replace HY := Lib.hid (HY.out.gr hgx); replace G := Lib.hid (G.out.tr hgx)
  have ef : decide (ackB [] [] n) = false := decide_eq_false (fun z => by cases z.1)
  rw [ef]
  clear hgx hax hbx ef
  go_wp2_with fail
  refine (done_calls _ p 0 _ [] none [] HX.out).mono ?_
  rintro e wy ⟨rfl, hgx⟩
  replace HX := Lib.hid (HX.out.gr hgx); replace HY := Lib.hid (HY.out.gr hgx); replace G := Lib.hid (G.out.tr hgx)
  clear hgx
  go_wp2_with fail
  refine (answer_calls _ (p + 1) 0 _ [] none none [] _ _ HY.out (by decide) (by decide) n hn _ [] rd_nil (by decide)).mono ?_
  rintro e wy ⟨rfl, hbx, hax⟩
  have hgx := hbx.gr Gr.rfl' (fun k e => by rcases e with e | e <;> cases e)
  replace HX := Lib.hid (HX.out.gr hgx); replace HY := Lib.hid (HY.out.gr hgx); replace G := Lib.hid (G.out.tr hgx)
  have ef : decide (ackB [] [] n) = false := decide_eq_false (fun z => by cases z.1)
  rw [ef]
  clear hgx hax hbx ef
  go_wp2_with fail
  refine (rdone_calls _ (p + 1) 0 _ [] none [] HY.out.wr).mono ?_
  rintro e wy ⟨rfl, hgx⟩
  replace HY := Lib.hid (HY.out.gr hgx); replace G := Lib.hid (G.out.tr hgx)
  clear hgx
  go_wp2_with fail
  refine (merged_calls _ (p + 1) 0 _ [] none none [] _ (fun _ => []) HY.out (by decide) (by decide)).mono ?_
  rintro e wy ⟨v, rfl, ho, hgx⟩
  replace G := Lib.hid (G.out.tr hgx)
  rw [show sortP ([].map fun _ : Int => ([] : List Pt)).flatten = [] from rfl] at ho
  obtain ⟨va, vc, rfl⟩ := own_slice ho
  clear hgx ho
  go_wp2_with fail
  go_ret
  exact ⟨rfl, G.out⟩
end Go.Proofs.Ytpnpnjfflblkpaa

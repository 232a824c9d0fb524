import Derived.Test.YtafdddakkenlaaaWinZ
import Derived.Deep.AppendLies
namespace Go.Proofs.Ytafdddakkenlaaa
open Go.RowKit Go.Sort
attribute [local go_sem ↓] field26_0 field26_1

set_option maxRecDepth 100000 in
set_option maxHeartbeats 2000000 in
theorem reach_calls (a b k : Int) (w : World) :
    Calls Try.prog 23 #[.agg #[.int .i64 a, .int .i64 b], .int .i64 k, .int .i64 100] w fun e w' => ∃ v', e = .returned v' ∧ w'.ownsRow w.heap.size 26 2 v' (min 100 (wCount (a, b) k).toNat) (encS (wEach (a, b) k (min 100 (wCount (a, b) k).toNat))) ∧ Gr w w' := by
  have hcov := rcover_calls a b k
  have hcou := rcount_calls a b k
  have hcb := wCover_bd (a, b) k
  have hcn := cnt_nn (a, b) k
  have hwb := wWidth_bd k
  obtain ⟨cnt, hcnt⟩ := Int.eq_ofNat_of_zero_le hcn
  have hes := wEach_succ (a, b) k
  have hel := wEach_len (a, b) k
  have he0 : wEach (a, b) k 0 = [] := rfl
  have hE : ∀ i, wE (a, b) k i = ((wCover (a, b) k).1 + i * wWidth k, mn ((wCover (a, b) k).1 + i * wWidth k + wWidth k) 1099511627777) := fun _ => rfl
  rw [hcnt] at hcou ⊢
  simp only [Int.toNat_natCast]
  generalize wCover (a, b) k = c at *
  obtain ⟨p, q⟩ := c
  simp only at hcb hcov hE
  generalize wEach (a, b) k = we at *
  generalize wE (a, b) k = ee at *
  clear hcnt hcn
  obtain ⟨m, hm⟩ : ∃ m, min 100 cnt = m := ⟨_, rfl⟩
  rw [hm]
  have hm1 : m ≤ 100 := by omega
  have hm2 : m ≤ cnt := by omega
  have hm3 : m = 100 ∨ m = cnt := by omega
  clear hm
  have Hcov := Lib.hid hcov; have Hcou := Lib.hid hcou; have HE := Lib.hid hE; have Hes := Lib.hid hes; have Hel := Lib.hid hel
  clear hcov hcou hE hes hel
  obtain ⟨i0, hi, hz0, hz1, hz2⟩ := info_parts info26
  go_enter Try.func23, Try.ntmps23
  go_wp2_with fail
  refine (Hcou.out _).mono ?_
  rintro e w1 ⟨rfl, hb⟩
  have x0 : w1.cell? ⟨w.heap.size, 0, none⟩ = some (.int .i64 a) := keepc hb (by simp [go_sem])
  have x1 : w1.cell? ⟨w.heap.size, 1, none⟩ = some (.int .i64 b) := keepc hb (by simp [go_sem])
  have hG : Gr w w1 := by (repeat (first | exact Gr.rfl' | refine Gr.al ?_ _ | refine Gr.dr ?_ | refine Gr.drN ?_ | refine Gr.sc ?_ (by simp <;> omega) _ | refine Gr.tr ?_ (by assumption)))
  clear hb
  go_wp2_with fail
  refine (Hcov.out _).mono ?_
  rintro e w2 ⟨rfl, hb⟩
  replace hG := (hG.tr hb).al (.cells #[.int .i64 p, .int .i64 q] 26)
  have hgs := hG.size
  have B1 := heap_alloc_new w2 (.cells #[.int .i64 p, .int .i64 q] 26)
  have d0 : (w2.alloc (.cells #[.int .i64 p, .int .i64 q] 26)).cell? ⟨w2.heap.size, 0, none⟩ = some (.int .i64 p) := by rw [cell_of_row _ w2.heap.size 0 _ _ _ B1]; rfl
  have hB1 := (Array.getElem?_eq_some_iff.1 B1).1
  clear hb x0 x1 B1
  go_wp2_with (go_at_call 12; refine (rwidth_calls _ _).mono ?_; rintro e w' ⟨rfl, rfl⟩)
  generalize w2.alloc (.cells #[.int .i64 p, .int .i64 q] 26) = W1 at *
  generalize w2.heap.size = B at *
  go_loopw [7, 11] (fun u v wr => ∃ i : Nat, i ≤ m ∧ v = .int .i64 i ∧ wr.ownsRow W1.heap.size 26 2 u i (encS (we i)) ∧ Gr W1 wr) (fun _ v _ => m - (intOf v).toNat)
  case atStart => exact ⟨0, Nat.zero_le _, rfl, by rw [he0]; exact World.ownsRow_nil _ _ _ _, Gr.rfl'⟩
  case round =>
    obtain ⟨i, him, rfl, hown, hg⟩ := hrel
    have d1 := keepc hg d0
    have hgz := hg.size
    by_cases hlt : i < m
    · have h1 : (i : Int) < (cnt : Int) := by omega
      have h2 : (i : Int) < 100 := by omega
      obtain ⟨z, hz⟩ : ∃ z, (i : Int) * wWidth k = z := ⟨_, rfl⟩
      have hz1' : 0 ≤ z := by rw [← hz]; exact Int.mul_nonneg (by omega) (by omega)
      have hz2' : z ≤ 100 * 3600 := by rw [← hz]; exact Int.mul_le_mul (by omega) (by omega) (by omega) (by omega)
      have q1 : IntKind.i64.wrap ((i : Int) * wWidth k) = z := by rw [hz]; exact IntWalk.i64_in _ (by omega)
      have q2 : IntKind.i64.wrap (p + z) = p + z := IntWalk.i64_in _ (by omega)
      have q3 : IntKind.i64.wrap (p + z + wWidth k) = p + z + wWidth k := IntWalk.i64_in _ (by omega)
      have Hee := Lib.hid (show ee i = (p + z, mn (p + z + wWidth k) 1099511627777) by rw [HE.out, hz])
      clear hz
      obtain ⟨ua, uc, hu⟩ := own_slice hown
      subst hu
      have hne3 : ∀ j, Value.ownBlock (.slice ua i uc) = some j → j ≠ B := fun j hj => by have := (hown.lt j hj).1; omega
      have hr3 : ∀ j, Value.ownBlock (.slice ua i uc) = some j → W1.heap.size ≤ j := fun j hj => (hown.lt j hj).1
      have hlen : (encS (we (i + 1))) = encS (we i) ++ [.int .i64 (p + z), .int .i64 (mn (p + z + wWidth k) 1099511627777)] := by rw [Hes.out, encS_append, Hee.out]; rfl
      have Hlen := Lib.hid hlen; clear hlen
      have Hown := Lib.hid hown; clear hown
      go_upto_region 8 with fail
      go_region_held3 (fun w' => w'.cell? ⟨B, 0, none⟩ = some (.int .i64 p)) (first | (go_keep; done) | (refine cell_grown' hgrow3 hne3 ?_; (simp [*]; done)) | ((with_reducible (repeat (first | assumption | refine And.intro ?_ ?_ | refine cv_dr ?_ | refine cv_sc _ _ ?_ | (rw [World.cell?_drew]; assumption) | (rw [World.frozen?_drew]; assumption) | (rw [World.frozen?_setCell]) | (refine cv_gr hb ?_; first | assumption | (refine cv_dr ?_; assumption)) | (refine keepc hb ?_; first | assumption | (rw [World.cell?_drew]; assumption) | (refine keepc (Gr.al Gr.rfl' _) ?_; first | assumption | (rw [World.cell?_drew]; assumption))) | (refine keepf' hb ?_ ?_ <;> first | assumption | (refine cv_dr ?_; assumption) | (rw [World.frozen?_drew]; assumption)) | (refine cell_grown' hgrow3 hne3 ?_; first | assumption | (refine keepc (Gr.al Gr.rfl' _) ?_; assumption)) | (refine keepc (Gr.al Gr.rfl' _) ?_; first | assumption | (rw [World.cell?_drew]; assumption)) | (rw [World.cell?_setCell_other _ _ _ _ (by simp)])))); done))
        ((first
          | (go_at_call 42; refine (rcut_calls _ _).mono ?_; rintro e w' ⟨rfl, rfl⟩)
          | (refine step_append_lies _ (by rfl) _ _ 37 (by rfl) W1.heap.size 26 i0 (.agg #[.int .i64 0, .int .i64 0]) 2 16 Try.underlying37 hi hz0 hz1 hz2 rfl (by decide) _ i (encS (we i)) (by rfl) (Hown.out.alloc _) ⟨wr.heap.size, 0, none⟩ 1 1 [.int .i64 (p + z), .int .i64 (mn (p + z + wWidth k) 1099511627777)] (by rfl) rfl (World.news_of_block (heap_alloc_new wr _)) (by intro u hu; simp only [List.mem_cons, List.not_mem_nil, or_false] at hu; rcases hu with rfl | rfl <;> rfl) (by decide) (by unfold maxLen; omega) (by omega) (by simp; omega) _ rfl ?_; intro g cap w3 hown3 hgrow3 hat3 hlt3)))
      all_goals
        go_wp2_with fail
        go_roundw
        case rel => exact ⟨i + 1, by omega, by go_num, own_cast hown3 rfl Hlen.out.symm, gr_gb (by (repeat (first | exact Gr.rfl' | refine Gr.al ?_ _ | refine Gr.dr ?_ | refine Gr.drN ?_ | refine Gr.sc ?_ (by simp <;> omega) _ | refine Gr.tr ?_ (by assumption)))) hgrow3 hr3⟩
        case measure => simp [intOf]; omega
    · obtain rfl : i = m := by omega
      have Hown := Lib.hid hown; clear hown
      have h1 : i < cnt ∧ ¬ (i : Int) < 100 ∨ ¬ (i : Int) < (cnt : Int) := by omega
      rcases h1 with ⟨h1, h2⟩ | h1
      · have h3 : (i : Int) < (cnt : Int) := by omega
        go_wp2_with fail
        go_ret
        exact ⟨_, rfl, own_mono Hown.out hgs, by (repeat (first | exact Gr.rfl' | refine Gr.al ?_ _ | refine Gr.dr ?_ | refine Gr.drN ?_ | refine Gr.sc ?_ (by simp <;> omega) _ | refine Gr.tr ?_ (by assumption)))⟩
      · go_wp2_with fail
        go_ret
        exact ⟨_, rfl, own_mono Hown.out hgs, by (repeat (first | exact Gr.rfl' | refine Gr.al ?_ _ | refine Gr.dr ?_ | refine Gr.drN ?_ | refine Gr.sc ?_ (by simp <;> omega) _ | refine Gr.tr ?_ (by assumption)))⟩
end Go.Proofs.Ytafdddakkenlaaa

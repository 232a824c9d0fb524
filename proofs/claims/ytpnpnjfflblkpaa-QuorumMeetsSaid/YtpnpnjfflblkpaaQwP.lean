/- quorum: the laws' points: at most ten, each with a short name. -/
import Derived.Test.YtpnpnjfflblkpaaQwL
namespace Go.Proofs.Ytpnpnjfflblkpaa
open Go.RowKit Go.Maps Go.Sort Go.Shelf

def smallP (p : Pt) : Pt := if 60 < p.s.size then { p with s := p.s.extract 0 60 } else p
theorem smallP_size (p : Pt) : (smallP p).s.size ≤ 60 := by
  unfold smallP
  split
  · simp [ByteArray.size_extract]; omega
  · omega
def tenP (l : List Pt) : List Pt := (l.take 10).map smallP
theorem ten_len (l : List Pt) : (tenP l).length ≤ 10 := by unfold tenP; rw [List.length_map]; exact List.length_take_le 10 l
def upP (l : List Pt) (i : Nat) : List Pt := (l.take i).map smallP
theorem upP_len (l : List Pt) (i : Nat) : (upP l i).length ≤ i := by unfold upP; rw [List.length_map]; exact List.length_take_le i l
theorem upP_succ (l : List Pt) (i : Nat) (h : i < l.length) : upP l (i + 1) = upP l i ++ [smallP l[i]] := by
  unfold upP
  rw [List.take_succ_eq_append_getElem h, List.map_append]; rfl
set_option maxRecDepth 100000 in
set_option maxHeartbeats 4000000 in
theorem points_calls (v : Value) (l : List Pt) (w : World) (hv : rdRow w 6 v l.length (encP l)) (hk : l.length ≤ maxLen) :
    Calls Try.prog 21 #[v] w fun e w' => ∃ v', e = .returned v' ∧ w'.ownsRow w.heap.size 26 6 v' (tenP l).length (encP (tenP l)) ∧ Gr w w' := by
  obtain ⟨a, c, rfl⟩ : ∃ a c, v = .slice a l.length c := by obtain ⟨_, a, c, e, _⟩ := hv; exact ⟨a, c, e⟩
  have H := Lib.hid hv
  have HS := Lib.hid (upP_succ l)
  have HLn := Lib.hid (upP_len l)
  have HE := Lib.hid (show ∀ i, (i = l.length ∧ i ≤ 10) ∨ i = 10 → upP l i = tenP l from fun i h => by
    unfold upP tenP
    rcases h with ⟨rfl, h⟩ | rfl
    · rw [List.take_length, List.take_of_length_le h]
    · rfl)
  have H0 := Lib.hid (show upP l 0 = [] from rfl)
  generalize upP l = U at *
  obtain ⟨R, eR⟩ : ∃ R, w.heap.size = R := ⟨_, rfl⟩
  have HR := Lib.hid eR
  unfold maxLen at hk
  clear hv eR
  go_enter Try.func21, Try.ntmps21
  go_wp2_with fail
  go_loopw [3, 4] (fun lv iv wr => ∃ i : Nat, i ≤ l.length ∧ i ≤ 10 ∧ iv = .int .i64 i ∧ Hid (wr.ownsRow R 26 6 lv (U i).length (encP (U i))) ∧ Hid (Gr w wr)) (fun _ iv _ => l.length - (intOf iv).toNat)
  case atStart => exact ⟨0, Nat.zero_le _, Nat.zero_le _, rfl, Lib.hid (by rw [H0.out]; exact World.ownsRow_nil _ _ _ _), Lib.hid Gr.rfl'⟩
  case round =>
    obtain ⟨i, hi1, hi2, rfl, HO, HG⟩ := hrel
    have hL := HLn.out i
    by_cases hlt : i < l.length ∧ i < 10
    · obtain ⟨hl1, hl2⟩ := hlt
      have hk1 : (i : Int) < l.length := by omega
      have hk2 : (i : Int) < 10 := by omega
      obtain ⟨bl, ol, _, e1, _, hrg⟩ := rd_range ptC 6 (fun _ => rfl) (H.out.gr HG.out) (by omega)
      replace e1 := (Value.slice.inj e1).1
      subst e1
      have Hq := Lib.hid (hrg i hl1)
      have hS := HS.out i hl1
      obtain ⟨q, eq⟩ : ∃ q, l[i] = q := ⟨_, rfl⟩
      rw [eq] at Hq hS
      obtain ⟨L, eL⟩ : ∃ L, U i = L := ⟨_, rfl⟩
      rw [eL] at HO hS hL
      obtain ⟨la, lc, hlv⟩ := own_slice HO.out
      subst hlv
      have HSu := Lib.hid hS
      clear hrg eq eL hS
      go_upto_region 6 with (refine wpList_load_mid rfl 26 (.tmp 18) rfl bl (ol + i * 6) rfl (ptC q) _ Hq.out Try.underlying26 rfl info_pt ?_)
      obtain ⟨w5, e5, hg5, b5, s5⟩ := al_out wr (.cells #[.string q.s, .int .i64 q.t, .int .i64 q.v, .int .i64 q.c, .int .i64 q.st, .int .i64 q.q] 26)
      rw [e5]
      obtain ⟨A, eA⟩ : ∃ A, wr.heap.size = A := ⟨_, rfl⟩
      rw [eA] at b5 ⊢
      have HA := Lib.hid eA
      have B5 := Lib.hid b5
      have G5 := Lib.hid hg5
      have cA := (cell_of_row _ _ 0 _ _ _ b5).trans (rfl : _ = some (Value.string q.s))
      have fA := frozen_of_row w5 A 0 _ _ b5
      clear e5 hg5 b5 s5 eA
      by_cases h60 : 60 < q.s.size
      · have hs : smallP q = { q with s := q.s.extract 0 60 } := if_pos h60
        have hb6 := heap_setCell_same w5 A 0 _ _ (.string (q.s.extract 0 60)) B5.out
        obtain ⟨x, ex⟩ : ∃ x, smallP q = x := ⟨_, rfl⟩
        have HB6 := Lib.hid (show (w5.setCell ⟨A, 0, none⟩ (.string (q.s.extract 0 60))).heap[A]? = some (.cells (ptC x).toArray 26 (0, 0)) from by rw [hb6, ← ex, hs]; rfl)
        have HG6 := Lib.hid (show Gr wr (w5.setCell ⟨A, 0, none⟩ (.string (q.s.extract 0 60))) from Gr.sc G5.out (by rw [← HA.out]; exact Nat.le_refl _) _)
        rw [ex] at HSu
        have h1 : (60 : Int) < q.s.size := by omega
        clear hs hb6 ex
        go_upto_region 8 with fail
        generalize w5.setCell ⟨A, 0, none⟩ (.string (q.s.extract 0 60)) = w6 at *
        clear cA fA
        go_wp2_with (first | (refine wpList_load_rowg (by rfl) 26 (.tmp 5) rfl A rfl _ (ptC x).toArray (0, 0) _ HB6.out Try.underlying26 rfl info_pt ?_) | (at_builtin; refine Hid.out ?_))
        apply Lib.hid
        have hgw := Gr.al (Gr.rfl' (w := w6)) (.cells (ptC x).toArray 26)
        refine wpList_snoc ptC 6 56 (fun _ => rfl) (by decide) (by decide) ptC_one6 rfl (.tmp 28) (.tmp 30) 37 rfl R 26 _ Try.underlying37 infoPt rfl (.slice la L.length lc) L rfl (own_gr (own_gr HO.out HG6.out) hgw) x w6.heap.size rfl (heap_alloc_new w6 _) (by omega) (by have h1 := (HG.out.tr HG6.out).size; have h2 := HR.out; simp; omega) (fun a6 c6 w7 ho6 hg6 hat6 => ?_)
        have HO6 := Lib.hid (show w7.ownsRow R 26 6 (.slice a6 (L.length + 1) c6) (U (i + 1)).length (encP (U (i + 1))) from by rw [HSu.out]; exact ho6)
        have HG7 := Lib.hid (gr_gb ((HG.out.tr HG6.out).tr hgw) hg6 (fun j hj => by rw [HR.out]; exact (HO.out.lt j hj).1))
        clear ho6 hg6 hat6 hgw
        go_wp2_with fail
        go_roundw
        case rel => exact ⟨i + 1, by omega, by omega, by go_num, HO6, HG7⟩
        case measure => simp [intOf]; omega
      · obtain ⟨x, ex⟩ : ∃ x, smallP q = x := ⟨_, rfl⟩
        have hs : smallP q = q := if_neg h60
        have HB6 := Lib.hid (show w5.heap[A]? = some (.cells (ptC x).toArray 26 (0, 0)) from by rw [← ex, hs]; exact B5.out)
        have HG6 := G5
        rw [ex] at HSu
        have h1 : ¬ (60 : Int) < q.s.size := by omega
        clear hs ex
        go_upto_region 8 with fail
        generalize w5 = w6 at *
        clear cA fA
        go_wp2_with (first | (refine wpList_load_rowg (by rfl) 26 (.tmp 5) rfl A rfl _ (ptC x).toArray (0, 0) _ HB6.out Try.underlying26 rfl info_pt ?_) | (at_builtin; refine Hid.out ?_))
        apply Lib.hid
        have hgw := Gr.al (Gr.rfl' (w := w6)) (.cells (ptC x).toArray 26)
        refine wpList_snoc ptC 6 56 (fun _ => rfl) (by decide) (by decide) ptC_one6 rfl (.tmp 28) (.tmp 30) 37 rfl R 26 _ Try.underlying37 infoPt rfl (.slice la L.length lc) L rfl (own_gr (own_gr HO.out HG6.out) hgw) x w6.heap.size rfl (heap_alloc_new w6 _) (by omega) (by have h1 := (HG.out.tr HG6.out).size; have h2 := HR.out; simp; omega) (fun a6 c6 w7 ho6 hg6 hat6 => ?_)
        have HO6 := Lib.hid (show w7.ownsRow R 26 6 (.slice a6 (L.length + 1) c6) (U (i + 1)).length (encP (U (i + 1))) from by rw [HSu.out]; exact ho6)
        have HG7 := Lib.hid (gr_gb ((HG.out.tr HG6.out).tr hgw) hg6 (fun j hj => by rw [HR.out]; exact (HO.out.lt j hj).1))
        clear ho6 hg6 hat6 hgw
        go_wp2_with fail
        go_roundw
        case rel => exact ⟨i + 1, by omega, by omega, by go_num, HO6, HG7⟩
        case measure => simp [intOf]; omega
    · have hex : (i = l.length ∧ i ≤ 10) ∨ i = 10 := by omega
      have hE := HE.out i hex
      have HF := Lib.hid (show wr.ownsRow R 26 6 _ (tenP l).length (encP (tenP l)) from by rw [← hE]; exact HO.out)
      obtain ⟨la, lc, hlv⟩ := own_slice HO.out
      subst hlv
      have hcase : i = l.length ∨ (i < l.length ∧ i = 10) := by omega
      clear hex hE hlt
      rcases hcase with rfl | ⟨hl, rfl⟩
      all_goals
        (try have hl' : (10 : Int) < l.length := by omega)
        go_wp2_with fail
        go_ret
        exact ⟨_, rfl, by rw [HR.out]; exact HF.out, HG.out⟩
end Go.Proofs.Ytpnpnjfflblkpaa

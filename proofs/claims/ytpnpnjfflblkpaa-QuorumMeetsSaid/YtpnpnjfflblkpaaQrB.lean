/- quorum: what was answered, put together. -/
import Derived.Test.YtpnpnjfflblkpaaQrA
import Derived.Test.YtpnpnjfflblkpaaAp
namespace Go.Proofs.Ytpnpnjfflblkpaa
open Go.RowKit Go.Maps Go.Sort Go.Shelf

/-- A slice as one cell. -/
def slC (x : Option Addr × Nat × Nat) : List Value := [.slice x.1 x.2.1 x.2.2]
theorem slC_one (x : Option Addr × Nat × Nat) : ∀ u ∈ slC x, u.oneCell' = true := fun u hu => by
  rw [List.mem_singleton.1 hu]; rfl
theorem infoPts : (Try.prog.info? 37).map (fun i => (i.zero, i.size, i.bytes)) = some (some (.slice none 0 0), 1, 24) := by kernel_rfl
theorem slC_map (l : List (Option Addr × Nat × Nat)) : l.flatMap slC = l.map fun x => Value.slice x.1 x.2.1 x.2.2 := by
  induction l with
  | nil => rfl
  | cons x r ih => rw [List.flatMap_cons, ih]; rfl
def sumG (N : List Int) (gl : Int → List Pt) : Nat := ((N.map gl).flatten).length
def MergedPost (w : World) (N : List Int) (gl : Int → List Pt) (e : Ending) (w' : World) : Prop :=
  ∃ v', e = .returned v' ∧ w'.ownsRow w.heap.size 26 6 v' (sortP (N.map gl).flatten).length (encP (sortP (N.map gl).flatten)) ∧ Gr w w'
set_option maxRecDepth 100000 in
set_option maxHeartbeats 4000000 in
theorem merged_calls (w : World) (p : Nat) (nd : Int) (nv : Value) (N : List Int) (mb mg : Option Nat) (H : List Int) (gv : Int → Value) (gl : Int → List Pt) (h : RdAt w p nd nv N mb mg H gv gl) (hN : N.length ≤ 1000) (hs : sumG N gl ≤ 100000) :
    Calls Try.prog 18 #[.pointer (some ⟨p, 0, none⟩)] w (MergedPost w N gl) := by
  have hsl : ∀ k, ∃ x : Option Addr × Nat × Nat, gv k = .slice x.1 x.2.1 x.2.2 := fun k => by
    obtain ⟨_, a, c, e, _⟩ := h.gt.rows k
    exact ⟨(a, _, c), e⟩
  obtain ⟨gs, hgs⟩ := Classical.skolem.1 hsl
  obtain ⟨ua, uc, hnv, huc, hrd⟩ := rd_at h.wr.row
  subst hnv
  have HH := Lib.hid h
  have HGS := Lib.hid hgs
  have HRD := Lib.hid hrd
  have HS := Lib.hid (show sumL (N.map gl) ≤ 100000 from hs)
  have c1 := h.wr.c1
  obtain ⟨R, eR⟩ : ∃ R, w.heap.size = R := ⟨_, rfl⟩
  have HR := Lib.hid eR
  clear hsl h hgs hrd hs eR
  go_enter Try.func18, Try.ntmps18
  go_wp2_with fail
  clear c1
  go_loopw [3, 14] (fun lv iv wr => ∃ i : Nat, i ≤ N.length ∧ iv = .int .i64 i ∧ Hid (wr.ownsRow R 37 1 lv (N.take i).length (((N.take i).map gs).flatMap slC)) ∧ Hid (Gr w wr)) (fun _ iv _ => N.length - (intOf iv).toNat)
  case atStart => exact ⟨0, Nat.zero_le _, rfl, Lib.hid (World.ownsRow_nil _ _ _ _), Lib.hid Gr.rfl'⟩
  case round =>
    obtain ⟨i, hi, rfl, HO, HG⟩ := hrel
    have hln : (N.take i).length = i := by rw [List.length_take]; omega
    rw [hln] at HO
    obtain ⟨la, lc, hlv⟩ := own_slice HO.out
    subst hlv
    have Hln := Lib.hid hln
    clear hln
    by_cases hlt : i < N.length
    · have hlt' : (i : Int) < N.length := by omega
      obtain ⟨b, o, rfl, hc⟩ := HRD.out (by omega)
      have ci := keepc HG.out (hc i hlt)
      have c3 := keepc HG.out HH.out.gt.c3
      have HT := Lib.hid (List.take_succ_eq_append_getElem hlt)
      have hI := HH.out.wr.nI _ (List.getElem_mem hlt)
      obtain ⟨x, ex⟩ : ∃ x, N[i] = x := ⟨_, rfl⟩
      rw [ex] at ci HT hI
      have HLK := Lib.hid ((HH.out.gt.gr HG.out).look hI)
      rw [HGS.out x] at HLK
      clear hc ex hI
      go_wp2_with (first | (refine wpList_look1 (by rfl) (.tmp 22) (.tmp 23) 67 rfl _ _ _ rfl rfl HLK.out ?_) | (at_builtin; refine Hid.out ?_))
      apply Lib.hid
      have hgw := Gr.al (Gr.rfl' (w := wr)) (.cells #[.slice (gs x).1 (gs x).2.1 (gs x).2.2] 37)
      have hml : ((N.take i).map gs).length = i := by rw [List.length_map, Hln.out]
      have hO := own_gr HO.out hgw
      have hO2 : (wr.alloc (.cells #[.slice (gs x).1 (gs x).2.1 (gs x).2.2] 37)).ownsRow R 37 1 (.slice la i lc) ((N.take i).map gs).length (((N.take i).map gs).flatMap slC) := by rw [hml]; exact hO
      refine wpList_snoc slC 1 24 (fun _ => rfl) (by decide) (by decide) slC_one rfl (.tmp 18) (.tmp 25) 78 rfl R 37 _ Try.underlying78 infoPts rfl (.slice la i lc) ((N.take i).map gs) rfl hO2 (gs x) wr.heap.size rfl (heap_alloc_new wr _) (by omega) (by have h1 := HG.out.size; have h2 := HR.out; simp; omega) (fun a6 c6 w6 ho6 hg6 hat6 => ?_)
      have HO6 := Lib.hid (show w6.ownsRow R 37 1 (.slice a6 (i + 1) c6) (N.take (i + 1)).length (((N.take (i + 1)).map gs).flatMap slC) from by
        rw [hml] at ho6
        rw [HT.out]
        refine own_cast ho6 (by simp) ?_
        simp)
      have HG6 := Lib.hid (gr_gb (HG.out.tr hgw) hg6 (fun j hj => by rw [HR.out]; exact (HO.out.lt j hj).1))
      rw [hml]
      clear ho6 hg6 hat6 hgw hO hO2 hml HLK ci c3
      go_wp2_with fail
      go_roundw
      case rel => exact ⟨i + 1, by omega, by go_num, HO6, HG6⟩
      case measure => simp [intOf]; omega
    · obtain rfl : i = N.length := by omega
      have ht : N.take N.length = N := List.take_length
      have hO := HO.out
      rw [ht, slC_map, List.map_map] at hO
      have hL : LsAt wr (.slice la N.length lc) (N.map gv) (N.map gl) := by
        have e1 : (N.map ((fun x : Option Addr × Nat × Nat => Value.slice x.1 x.2.1 x.2.2) ∘ gs)) = N.map gv := List.map_congr_left fun k _ => (HGS.out k).symm
        rw [e1] at hO
        refine ⟨by rw [List.length_map]; exact rdRow_of_own hO, by simp, fun j h1 h2 => ?_⟩
        have := (HH.out.gt.gr HG.out).rows (N[j]'(by simpa using h1))
        simpa using this
      have HM := Lib.hid (merge_calls (.slice la N.length lc) (N.map gv) (N.map gl) wr hL HS.out (by rw [List.length_map]; omega))
      clear ht hO hL hlt
      go_wp2_with fail
      refine HM.out.mono ?_
      rintro e w7 ⟨v7, rfl, ho7, hg7⟩
      have HP := Lib.hid (show MergedPost w N gl (.returned v7) w7 from ⟨v7, rfl, own_mono ho7 HG.out.size, HG.out.tr hg7⟩)
      clear ho7 hg7
      go_wp2_with fail
      go_ret
      exact HP.out
end Go.Proofs.Ytpnpnjfflblkpaa

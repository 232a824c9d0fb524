/- The reference of quorum: Have, Merged, Repair. -/
import Derived.Test.YtpnpnjfflblkpaaRqA
import Derived.Test.YtpnpnjfflblkpaaJn
import Derived.Test.YtpnpnjfflblkpaaDfP
import Derived.Test.YtpnpnjfflblkpaaAp
namespace Go.Proofs.Ytpnpnjfflblkpaa
open Go.RowKit Go.Maps Go.Sort Go.Shelf

theorem thoseL_snoc (N H : List Int) (hv : Bool) (i : Nat) (h : i < N.length) : thoseL (N.take (i + 1)) H hv = thoseL (N.take i) H hv ++ (if (decide (N[i] ∈ H) == hv) = true then [N[i]] else []) := by
  unfold thoseL
  rw [List.take_succ_eq_append_getElem h, List.filter_append]
  congr 1
  cases e : decide (N[i] ∈ H) == hv <;> simp [e]
theorem thoseL_len (N H : List Int) (hv : Bool) : (thoseL N H hv).length ≤ N.length := List.length_filter_le _ _
theorem encI_flat (l : List Int) : (l.flatMap fun x => [Value.int .i64 x]) = encI l := by
  induction l with
  | nil => rfl
  | cons x r ih => rw [List.flatMap_cons, ih]; rfl
theorem intC_one (y : Int) : ∀ u ∈ [Value.int .i64 y], u.oneCell' = true := fun u hu => by rw [List.mem_singleton.1 hu]; rfl
set_option maxRecDepth 100000 in
set_option maxHeartbeats 4000000 in
theorem rqhave_calls (w : World) (r : Nat) (nd : Int) (nv : Value) (N H : List Int) (rv : Nat → Value) (gl : Int → List Pt) (h : RqAt w r nd nv N H rv gl) (hN : N.length ≤ 1000) (hv : Bool) :
    Calls Try.prog 28 #[.pointer (some ⟨r, 0, none⟩), .bool hv] w (ThosePost w N H hv) := by
  obtain ⟨na, nc, hnv, hnc, hrd⟩ := rd_at h.row.1
  subst hnv
  have HH := Lib.hid h
  have HRD := Lib.hid hrd
  have HSn := Lib.hid (thoseL_snoc N H hv)
  have HLn := Lib.hid (fun i => thoseL_len (N.take i) H hv)
  obtain ⟨R, eR⟩ : ∃ R, w.heap.size = R := ⟨_, rfl⟩
  have HR := Lib.hid eR
  clear h hrd eR
  go_enter Try.func28, Try.ntmps28
  go_wp2_with fail
  go_loopw [5, 6] (fun lv iv wr => ∃ i : Nat, i ≤ N.length ∧ iv = .int .i64 i ∧ Hid (wr.ownsRow R 3 1 lv (thoseL (N.take i) H hv).length (encI (thoseL (N.take i) H hv))) ∧ Hid (Gr w wr)) (fun _ iv _ => N.length - (intOf iv).toNat)
  case atStart => exact ⟨0, Nat.zero_le _, rfl, Lib.hid (World.ownsRow_nil _ _ _ _), Lib.hid Gr.rfl'⟩
  case round =>
    obtain ⟨i, hi, rfl, HO, HG⟩ := hrel
    obtain ⟨L, eL⟩ : ∃ L, thoseL (N.take i) H hv = L := ⟨_, rfl⟩
    rw [eL] at HO
    obtain ⟨la, lc, hlv⟩ := own_slice HO.out
    subst hlv
    have HQ := Lib.hid (HH.out.gr HG.out)
    have c1 := HQ.out.c1
    by_cases hlt : i < N.length
    · have hlt' : (i : Int) < N.length := by omega
      obtain ⟨b, o, rfl, hc⟩ := HRD.out (by omega)
      have ci := keepc HG.out (hc i hlt)
      have hS := HSn.out i hlt
      have hL := HLn.out i
      have hln : (N.take i).length = i := by rw [List.length_take]; omega
      rw [hln] at hL
      have hlo := HQ.out.lo _ (List.getElem_mem hlt)
      obtain ⟨x, ex⟩ : ∃ x, N[i] = x := ⟨_, rfl⟩
      rw [ex] at ci hS hlo
      obtain ⟨m, rfl⟩ : ∃ m : Nat, x = m := ⟨x.toNat, by omega⟩
      have hm : m < 16 := by omega
      have ch := (HQ.out.has m hm).1
      rw [eL] at hS hL
      clear eL
      obtain ⟨d, ed⟩ : ∃ d, decide ((m : Int) ∈ H) = d := ⟨_, rfl⟩
      rw [ed] at ch hS
      have HS := Lib.hid hS
      have Hhm := Lib.hid hm
      clear hc ex ed hS hlo hln
      go_wp2_with fail
      refine region_start (S := fun w' => Gr wr w') (by kernel_rfl) (by exact Gr.dr Gr.rfl') (fun wz hz0 hHeld => ?_)
      simp only [List.size_toArray, List.length_cons, List.length_nil, Nat.reduceAdd]
      refine wpAnyH_take (i := 0) (oi := ?_) (v := ?_) ?_ (by kernel_rfl) (by kernel_rfl) (by kernel_rfl) ?_ ?_ (by assumption) ?_; rotate_left 2; (focus (simp only [List.getElem?_toArray, List.getElem?_cons_zero]; rfl)); (focus (exact fun _ _ _ h => h)); first | (focus (refine Or.inl ⟨by rfl, ?_⟩; intro w hSw; (try dsimp only at hSw); (try dsimp only [Array.getD]); go_simp; (try with_reducible rfl))) | (focus (refine Or.inr ⟨by rfl, ?_⟩; rfl)) | fail "op 0"
      try simp only [Act.put, List.setIfInBounds_toArray, List.set_cons_zero, List.set_cons_succ]
      refine wpAnyH_take (i := 1) (oi := ?_) (v := ?_) ?_ (by kernel_rfl) (by kernel_rfl) (by kernel_rfl) ?_ ?_ (by assumption) ?_; rotate_left 2; (focus (simp only [List.getElem?_toArray, List.getElem?_cons_succ, List.getElem?_cons_zero]; rfl)); (focus (exact fun _ _ _ h => h)); first | (focus (refine Or.inl ⟨by rfl, ?_⟩; intro w hSw; (try dsimp only at hSw); (try dsimp only [Array.getD]); go_simp; (try with_reducible rfl))) | (focus (refine Or.inr ⟨by rfl, ?_⟩; rfl)) | fail "op 1"
      try simp only [Act.put, List.setIfInBounds_toArray, List.set_cons_zero, List.set_cons_succ]
      refine wpAnyH_take (i := 2) (oi := ?_) (v := ?_) ?_ (by kernel_rfl) (by kernel_rfl) (by kernel_rfl) ?_ ?_ (by assumption) ?_; rotate_left 2; (focus (simp only [List.getElem?_toArray, List.getElem?_cons_succ, List.getElem?_cons_zero]; rfl)); (focus (exact fun _ _ _ h => h)); first | (focus (refine Or.inl ⟨by rfl, ?_⟩; intro w hSw; (try dsimp only at hSw); (try dsimp only [Array.getD]); go_simp; (try with_reducible rfl))) | (focus (refine Or.inr ⟨by rfl, ?_⟩; rfl)) | fail "op 2"
      try simp only [Act.put, List.setIfInBounds_toArray, List.set_cons_zero, List.set_cons_succ]
      refine wpAnyH_take (i := 3) (oi := ?_) (v := ?_) ?_ (by kernel_rfl) (by kernel_rfl) (by kernel_rfl) ?_ ?_ (by assumption) ?_; rotate_left 2; (focus (simp only [List.getElem?_toArray, List.getElem?_cons_succ, List.getElem?_cons_zero]; rfl)); (focus (exact fun _ _ _ h => h)); first | (focus (refine Or.inl ⟨by rfl, ?_⟩; intro w hSw; (try dsimp only at hSw); (try dsimp only [Array.getD]); go_simp; (try with_reducible rfl))) | (focus (refine Or.inr ⟨by rfl, ?_⟩; rfl)) | fail "op 3"
      try simp only [Act.put, List.setIfInBounds_toArray, List.set_cons_zero, List.set_cons_succ]
      refine wpAnyH_take (i := 4) (oi := ?_) (v := ?_) ?_ (by kernel_rfl) (by kernel_rfl) (by kernel_rfl) ?_ ?_ (by assumption) ?_; rotate_left 2; (focus (simp only [List.getElem?_toArray, List.getElem?_cons_succ, List.getElem?_cons_zero]; rfl)); (focus (exact fun _ _ _ h => h)); first | (focus (refine Or.inl ⟨by rfl, ?_⟩; intro w hSw; (try dsimp only at hSw); have c1 := (HQ.out.gr hSw).c1; have ci := keepc hSw ci; have ch := keepc hSw ch; (try dsimp only [Array.getD]); go_simp; (try with_reducible rfl))) | (focus (refine Or.inr ⟨by rfl, ?_⟩; rfl)) | fail "op 4"
      try simp only [Act.put, List.setIfInBounds_toArray, List.set_cons_zero, List.set_cons_succ]
      refine wpAnyH_take (i := 5) (oi := ?_) (v := ?_) ?_ (by kernel_rfl) (by kernel_rfl) (by kernel_rfl) ?_ ?_ (by assumption) ?_; rotate_left 2; (focus (simp only [List.getElem?_toArray, List.getElem?_cons_succ, List.getElem?_cons_zero]; rfl)); (focus (exact fun _ _ _ h => h)); first | (focus (refine Or.inl ⟨by rfl, ?_⟩; intro w hSw; (try dsimp only at hSw); (try dsimp only [Array.getD]); go_simp; (try with_reducible rfl))) | (focus (refine Or.inr ⟨by rfl, ?_⟩; rfl)) | fail "op 5"
      try simp only [Act.put, List.setIfInBounds_toArray, List.set_cons_zero, List.set_cons_succ]
      refine wpAnyH_take (i := 6) (oi := ?_) (v := ?_) ?_ (by kernel_rfl) (by kernel_rfl) (by kernel_rfl) ?_ ?_ (by assumption) ?_; rotate_left 2; (focus (simp only [List.getElem?_toArray, List.getElem?_cons_succ, List.getElem?_cons_zero]; rfl)); (focus (exact fun _ _ _ h => h)); first | (focus (refine Or.inl ⟨by rfl, ?_⟩; intro w hSw; (try dsimp only at hSw); (try dsimp only [Array.getD]); go_simp; (try with_reducible rfl))) | (focus (refine Or.inr ⟨by rfl, ?_⟩; rfl)) | fail "op 6"
      try simp only [Act.put, List.setIfInBounds_toArray, List.set_cons_zero, List.set_cons_succ]
      refine wpAnyH_take (i := 7) (oi := ?_) (v := ?_) ?_ (by kernel_rfl) (by kernel_rfl) (by kernel_rfl) ?_ ?_ (by assumption) ?_; rotate_left 2; (focus (simp only [List.getElem?_toArray, List.getElem?_cons_succ, List.getElem?_cons_zero]; rfl)); (focus (exact fun _ _ _ h => h)); first | (focus (refine Or.inl ⟨by rfl, ?_⟩; intro w hSw; (try dsimp only at hSw); have c1 := (HQ.out.gr hSw).c1; have ci := keepc hSw ci; have ch := keepc hSw ch; (try dsimp only [Array.getD]); go_simp; (try with_reducible rfl))) | (focus (refine Or.inr ⟨by rfl, ?_⟩; rfl)) | fail "op 7"
      try simp only [Act.put, List.setIfInBounds_toArray, List.set_cons_zero, List.set_cons_succ]
      refine wpAnyH_take (i := 8) (oi := ?_) (v := ?_) ?_ (by kernel_rfl) (by kernel_rfl) (by kernel_rfl) ?_ ?_ (by assumption) ?_; rotate_left 2; (focus (simp only [List.getElem?_toArray, List.getElem?_cons_succ, List.getElem?_cons_zero]; rfl)); (focus (exact fun _ _ _ h => h)); first | (focus (refine Or.inl ⟨by rfl, ?_⟩; intro w hSw; (try dsimp only at hSw); (try dsimp only [Array.getD]); go_simp; (try with_reducible rfl))) | (focus (refine Or.inr ⟨by rfl, ?_⟩; rfl)) | fail "op 8"
      try simp only [Act.put, List.setIfInBounds_toArray, List.set_cons_zero, List.set_cons_succ]
      refine wpAnyH_take (i := 9) (oi := ?_) (v := ?_) ?_ (by kernel_rfl) (by kernel_rfl) (by kernel_rfl) ?_ ?_ (by assumption) ?_; rotate_left 2; (focus (simp only [List.getElem?_toArray, List.getElem?_cons_succ, List.getElem?_cons_zero]; rfl)); (focus (exact fun _ _ _ h => h)); first | (focus (refine Or.inl ⟨by rfl, ?_⟩; intro w hSw; (try dsimp only at hSw); (try dsimp only [Array.getD]); go_simp; (try with_reducible rfl))) | (focus (refine Or.inr ⟨by rfl, ?_⟩; rfl)) | fail "op 9"
      try simp only [Act.put, List.setIfInBounds_toArray, List.set_cons_zero, List.set_cons_succ]
      refine wpAnyH_take (i := 10) (oi := ?_) (v := ?_) ?_ (by kernel_rfl) (by kernel_rfl) (by kernel_rfl) ?_ ?_ (by assumption) ?_; rotate_left 2; (focus (simp only [List.getElem?_toArray, List.getElem?_cons_succ, List.getElem?_cons_zero]; rfl)); (focus (exact fun _ _ _ h => h)); first | (focus (refine Or.inl ⟨by rfl, ?_⟩; intro w hSw; (try dsimp only at hSw); have hmi : (m : Int) < 16 := Int.ofNat_lt.2 Hhm.out; (try dsimp only [Array.getD]); go_simp; (try with_reducible rfl))) | (focus (refine Or.inr ⟨by rfl, ?_⟩; rfl)) | fail "op 10"
      try simp only [Act.put, List.setIfInBounds_toArray, List.set_cons_zero, List.set_cons_succ]
      refine wpAnyH_take (i := 11) (oi := ?_) (v := ?_) ?_ (by kernel_rfl) (by kernel_rfl) (by kernel_rfl) ?_ ?_ (by assumption) ?_; rotate_left 2; (focus (simp only [List.getElem?_toArray, List.getElem?_cons_succ, List.getElem?_cons_zero]; rfl)); (focus (exact fun _ _ _ h => h)); first | (focus (refine Or.inl ⟨by rfl, ?_⟩; intro w hSw; (try dsimp only at hSw); have c1 := (HQ.out.gr hSw).c1; have ci := keepc hSw ci; have ch := keepc hSw ch; (try dsimp only [Array.getD]); go_simp; (try with_reducible rfl))) | (focus (refine Or.inr ⟨by rfl, ?_⟩; rfl)) | fail "op 11"
      try simp only [Act.put, List.setIfInBounds_toArray, List.set_cons_zero, List.set_cons_succ]
      refine wpAnyH_take (i := 12) (oi := ?_) (v := ?_) ?_ (by kernel_rfl) (by kernel_rfl) (by kernel_rfl) ?_ ?_ (by assumption) ?_; rotate_left 2; (focus (simp only [List.getElem?_toArray, List.getElem?_cons_succ, List.getElem?_cons_zero]; rfl)); (focus (exact fun _ _ _ h => h)); first | (focus (refine Or.inl ⟨by rfl, ?_⟩; intro w hSw; (try dsimp only at hSw); (try dsimp only [Array.getD]); go_simp; (try with_reducible rfl))) | (focus (refine Or.inr ⟨by rfl, ?_⟩; rfl)) | fail "op 12"
      try simp only [Act.put, List.setIfInBounds_toArray, List.set_cons_zero, List.set_cons_succ]
      refine wpAnyH_take (i := 13) (oi := ?_) (v := ?_) ?_ (by kernel_rfl) (by kernel_rfl) (by kernel_rfl) ?_ ?_ (by assumption) ?_; rotate_left 2; (focus (simp only [List.getElem?_toArray, List.getElem?_cons_succ, List.getElem?_cons_zero]; rfl)); (focus (exact fun _ _ _ h => h)); first | (focus (refine Or.inl ⟨by rfl, ?_⟩; intro w hSw; (try dsimp only at hSw); (try dsimp only [Array.getD]); go_simp; (try with_reducible rfl))) | (focus (refine Or.inr ⟨by rfl, ?_⟩; rfl)) | fail "op 13"
      try simp only [Act.put, List.setIfInBounds_toArray, List.set_cons_zero, List.set_cons_succ]
      refine wpAnyH_done (by kernel_rfl) ?_ _
      have G := Lib.hid hHeld
      clear hHeld hz0
      have c1z := keepc G.out c1
      have ciz := keepc G.out ci
      have HGz := Lib.hid (HG.out.tr G.out)
      have HOz := Lib.hid (own_gr HO.out G.out)
      obtain ⟨t, et⟩ : ∃ t, (d == hv) = t := ⟨_, rfl⟩
      rw [et] at HS ⊢
      clear c1 ci ch et HO G HQ
      cases t with
      | true =>
        go_wp2_with (at_builtin; refine Hid.out ?_)
        apply Lib.hid
        have hgw := Gr.al (Gr.rfl' (w := wz)) (.cells #[.int .i64 (m : Int)] 3)
        have hro := own_gr HOz.out hgw
        rw [← encI_flat] at hro
        refine wpList_snoc (fun y : Int => [.int .i64 y]) 1 8 (fun _ => rfl) (by decide) (by decide) intC_one rfl (.tmp 30) (.tmp 38) 27 rfl R 3 _ Try.underlying27 infoInt rfl (.slice la L.length lc) L rfl hro (m : Int) wz.heap.size rfl (heap_alloc_new wz _) (by omega) (by have h1 := HGz.out.size; have h2 := HR.out; simp; omega) (fun a6 c6 w6 ho6 hg6 hat6 => ?_)
        rw [encI_flat] at ho6
        have HO6 := Lib.hid (show w6.ownsRow R 3 1 (.slice a6 (L.length + 1) c6) (thoseL (N.take (i + 1)) H hv).length (encI (thoseL (N.take (i + 1)) H hv)) from by rw [HS.out]; exact ho6)
        have HG6 := Lib.hid (gr_gb (HGz.out.tr hgw) hg6 (fun j hj => by rw [HR.out]; exact (HOz.out.lt j hj).1))
        clear ho6 hg6 hat6 hgw hro c1z ciz
        go_wp2_with fail
        go_roundw
        case rel => exact ⟨i + 1, by omega, by go_num, HO6, HG6⟩
        case measure => simp [intOf]; omega
      | false =>
        have HO6 := Lib.hid (show wz.ownsRow R 3 1 (.slice la L.length lc) (thoseL (N.take (i + 1)) H hv).length (encI (thoseL (N.take (i + 1)) H hv)) from by rw [HS.out]; simpa using HOz.out)
        clear c1z ciz
        go_wp2_with fail
        go_roundw
        case rel => exact ⟨i + 1, by omega, by go_num, HO6, HGz⟩
        case measure => simp [intOf]; omega
    · obtain rfl : i = N.length := by omega
      have HP := Lib.hid (show ThosePost w N H hv (.returned (.slice la L.length lc)) wr from by
        refine ⟨_, rfl, ?_, HG.out⟩
        rw [List.take_length] at eL
        rw [eL, HR.out]
        exact HO.out)
      clear hlt eL
      go_wp2_with fail
      go_ret
      exact HP.out
/-- What the reference puts together: of each node in order. -/
def upN (i : Nat) : List Int := (List.range i).map Int.ofNat
def allR (gl : Int → List Pt) (i : Nat) : List Pt := ((upN i).map gl).flatten
theorem allR_succ (gl : Int → List Pt) (i : Nat) : allR gl (i + 1) = allR gl i ++ gl i := by
  unfold allR upN
  rw [List.range_succ, List.map_append, List.map_append, List.flatten_append]
  simp
theorem allR_le (gl : Int → List Pt) (B : Nat) (hB : ∀ k, (gl k).length ≤ B) (i : Nat) : (allR gl i).length ≤ i * B := by
  induction i with
  | zero => simp [allR, upN]
  | succ i ih => rw [allR_succ, List.length_append, Nat.succ_mul]; have := hB i; omega
def RmergedPost (w : World) (gl : Int → List Pt) (e : Ending) (w' : World) : Prop :=
  ∃ v', e = .returned v' ∧ w'.ownsRow w.heap.size 26 6 v' (sortP (allR gl 16)).length (encP (sortP (allR gl 16))) ∧ Gr w w'
set_option maxRecDepth 100000 in
set_option maxHeartbeats 4000000 in
theorem rqmerged_calls (w : World) (r : Nat) (nd : Int) (nv : Value) (N H : List Int) (rv : Nat → Value) (gl : Int → List Pt) (h : RqAt w r nd nv N H rv gl) (hgl : ∀ k, (gl k).length ≤ 1000) :
    Calls Try.prog 30 #[.pointer (some ⟨r, 0, none⟩)] w (RmergedPost w gl) := by
  have HH := Lib.hid h
  have HSn := Lib.hid (allR_succ gl)
  have HLn := Lib.hid (allR_le gl 1000 hgl)
  have HGL := Lib.hid hgl
  have H0 := Lib.hid (show allR gl 0 = [] from rfl)
  have HP := Lib.hid (fun (e : Ending) (w' : World) (z : ∃ v', e = .returned v' ∧ w'.ownsRow w.heap.size 26 6 v' (sortP (allR gl 16)).length (encP (sortP (allR gl 16))) ∧ Gr w w') => show RmergedPost w gl e w' from z)
  generalize allR gl = al at *
  obtain ⟨R, eR⟩ : ∃ R, w.heap.size = R := ⟨_, rfl⟩
  have HR := Lib.hid eR
  clear h hgl eR
  go_enter Try.func30, Try.ntmps30
  go_wp2_with fail
  go_loopw [3, 4] (fun lv iv wr => ∃ i : Nat, i ≤ 16 ∧ iv = .int .i64 i ∧ Hid (wr.ownsRow R 26 6 lv (al i).length (encP (al i))) ∧ Hid (Gr w wr)) (fun _ iv _ => 16 - (intOf iv).toNat)
  case atStart => exact ⟨0, Nat.zero_le _, rfl, Lib.hid (by rw [H0.out]; exact World.ownsRow_nil _ _ _ _), Lib.hid Gr.rfl'⟩
  case round =>
    obtain ⟨i, hi, rfl, HO, HG⟩ := hrel
    have hL := HLn.out i
    by_cases hlt : i < 16
    · have hlt' : (i : Int) < 16 := by omega
      have hS := HSn.out i
      have hG1 := HGL.out (i : Int)
      obtain ⟨L, eL⟩ : ∃ L, al i = L := ⟨_, rfl⟩
      rw [eL] at HO hS hL
      have HS := Lib.hid hS
      obtain ⟨la, lc, hlv⟩ := own_slice HO.out
      subst hlv
      have HQ := Lib.hid (HH.out.gr HG.out)
      have cg := (HQ.out.got i hlt).1
      have HRow := Lib.hid (HQ.out.rows i hlt).1
      generalize rv i = xv at *
      obtain ⟨xa, xc, rfl⟩ : ∃ a c, xv = .slice a (gl i).length c := by obtain ⟨_, a, c, e, _⟩ := HRow.out; exact ⟨a, c, e⟩
      clear eL hS
      go_wp2_with (at_builtin; refine Hid.out ?_)
      apply Lib.hid
      refine wpList_join ptC 6 56 pt_len6 (by decide) (by decide) pt_one6 rfl (.tmp 9) (.tmp 15) 37 rfl R 26 _ Try.underlying37 infoPt rfl (.slice la L.length lc) L rfl HO.out (gl i) _ rfl HRow.out (by omega) (by omega) (by have h1 := HG.out.size; have h2 := HR.out; omega) (fun a6 c6 w6 ho6 hg6 hat6 => ?_)
      rw [← HS.out] at ho6
      have HO6 := Lib.hid (show w6.ownsRow R 26 6 (.slice a6 (L.length + (gl i).length) c6) (al (i + 1)).length (encP (al (i + 1))) from by
        have e : (al (i + 1)).length = L.length + (gl i).length := by rw [HS.out, List.length_append]
        rw [← e]; exact ho6)
      have HG6 := Lib.hid (gr_gb HG.out hg6 (fun j hj => by rw [HR.out]; exact (HO.out.lt j hj).1))
      clear ho6 hg6 hat6 cg HRow HQ
      go_wp2_with fail
      go_roundw
      case rel => exact ⟨i + 1, by omega, by go_num, HO6, HG6⟩
      case measure => simp [intOf]; omega
    · obtain rfl : i = 16 := by omega
      have HSo := Lib.hid (rsort_calls _ (al 16) wr (rdRow_of_own HO.out) (by omega))
      clear hlt
      go_wp2_with fail
      refine HSo.out.mono ?_
      rintro e w7 ⟨v7, rfl, ho7, hg7⟩
      have HF := Lib.hid (HP.out (.returned v7) w7 ⟨v7, rfl, own_mono ho7 HG.out.size, HG.out.tr hg7⟩)
      clear ho7 hg7
      go_wp2_with fail
      go_ret
      exact HF.out
/-- What a node lacks, told by the reference. -/
def rrepL (N : List Int) (gl : Int → List Pt) (n : Int) : List Pt := if n ∈ N then (sortP (allR gl 16)).filter fun x => decide (x ∉ gl n) else []
theorem filt_snoc (M G : List Pt) (i : Nat) (h : i < M.length) : ((M.take (i + 1)).filter fun x => decide (x ∉ G)) = ((M.take i).filter fun x => decide (x ∉ G)) ++ (if M[i] ∈ G then [] else [M[i]]) := by
  rw [List.take_succ_eq_append_getElem h, List.filter_append]
  congr 1
  by_cases e : M[i] ∈ G <;> simp [e]
def RrepPost (w : World) (N : List Int) (gl : Int → List Pt) (n : Int) (e : Ending) (w' : World) : Prop :=
  ∃ v', e = .returned v' ∧ w'.ownsRow w.heap.size 26 6 v' (rrepL N gl n).length (encP (rrepL N gl n)) ∧ Gr w w'
set_option maxRecDepth 100000 in
set_option maxHeartbeats 8000000 in
theorem rqrepair_calls (w : World) (r : Nat) (nd : Int) (nv : Value) (N H : List Int) (rv : Nat → Value) (gl : Int → List Pt) (h : RqAt w r nd nv N H rv gl) (hN : N.length ≤ 1000) (hgl : ∀ k, (gl k).length ≤ 1000) (n : Int) :
    Calls Try.prog 31 #[.pointer (some ⟨r, 0, none⟩), .int .i64 n] w (RrepPost w N gl n) := by
  have HC := Lib.hid (in_calls nv N n w h.row.1 (by omega))
  have c1 := h.c1
  by_cases h1 : n ∈ N
  · obtain ⟨m, rfl⟩ : ∃ m : Nat, n = m := ⟨n.toNat, by have := h.lo n h1; omega⟩
    have hm : m < 16 := by have := h.lo _ h1; omega
    rw [decide_eq_true h1] at HC
    have HH := Lib.hid h
    have HM := Lib.hid (rqmerged_calls w r nd nv N H rv gl h hgl)
    have hMl : (sortP (allR gl 16)).length ≤ 16000 := by have h1 := sortP_len (allR gl 16); have h2 := allR_le gl 1000 hgl 16; omega
    have HD := Lib.hid (fun (e : Ending) (w' : World) (z : ∃ v', e = .returned v' ∧ w'.ownsRow w.heap.size 26 6 v' ((sortP (allR gl 16)).filter fun x => decide (x ∉ gl m)).length (encP ((sortP (allR gl 16)).filter fun x => decide (x ∉ gl m))) ∧ Gr w w') => show RrepPost w N gl m e w' from by
      unfold RrepPost rrepL; rw [if_pos h1]; exact z)
    unfold RmergedPost at HM
    have hgm := hgl m
    have HRow := Lib.hid (h.rows m hm).1
    obtain ⟨cg, _⟩ := h.got m hm
    obtain ⟨xa, xc, exv⟩ : ∃ a c, rv m = .slice a (gl m).length c := by obtain ⟨_, a, c, e, _⟩ := HRow.out; exact ⟨a, c, e⟩
    rw [exv] at cg HRow
    have Hcg := Lib.hid cg
    have Hhm := Lib.hid hm
    obtain ⟨M, eM⟩ : ∃ M, sortP (allR gl 16) = M := ⟨_, rfl⟩
    rw [eM] at HM HD hMl
    obtain ⟨G, eG⟩ : ∃ G, gl m = G := ⟨_, rfl⟩
    rw [eG] at HD HRow hgm Hcg
    have HFs := Lib.hid (filt_snoc M G)
    have HFn := Lib.hid (show ((M.take M.length).filter fun x => decide (x ∉ G)) = M.filter fun x => decide (x ∉ G) by rw [List.take_length])
    have HFl := Lib.hid (fun i => (Nat.le_trans (List.length_filter_le (fun x => decide (x ∉ G)) (M.take i)) (List.length_take_le i M)))
    have Hmi := Lib.hid (show (m : Int) < 16 from Int.ofNat_lt.2 hm)
    obtain ⟨F, eF⟩ : ∃ F : Nat → List Pt, (fun i => (M.take i).filter fun x => decide (x ∉ G)) = F := ⟨_, rfl⟩
    have HF0 := Lib.hid (show F 0 = [] by rw [← eF]; rfl)
    have HFs := Lib.hid (show ∀ i (h : i < M.length), F (i + 1) = F i ++ if M[i] ∈ G then [] else [M[i]] by rw [← eF]; exact HFs.out)
    have HFn := Lib.hid (show F M.length = M.filter fun x => decide (x ∉ G) by rw [← eF]; exact HFn.out)
    have HFl := Lib.hid (show ∀ i, (F i).length ≤ i by rw [← eF]; exact HFl.out)
    clear eF
    obtain ⟨R, eR⟩ : ∃ R, w.heap.size = R := ⟨_, rfl⟩
    have HR := Lib.hid eR
    rw [eR] at HM HD
    clear h h1 hgl cg eM eG eR exv
    go_enter Try.func31, Try.ntmps31
    go_wp2_with (first | (go_at_call 52; refine HC.out.mono ?_; rintro e w1 ⟨rfl, rfl⟩) | (go_at_call 30; refine HM.out.mono ?_; rintro e w2 ⟨vm, rfl, hom, hgm2⟩; obtain ⟨ma, mc, rfl⟩ := own_slice hom; have HOM := Lib.hid hom; have HGM := Lib.hid hgm2; clear hom hgm2))
    obtain ⟨R2, eR2⟩ : ∃ R, w2.heap.size = R := ⟨_, rfl⟩
    have HR2 := Lib.hid eR2
    have HOMr := Lib.hid (rdRow_of_own HOM.out)
    clear eR2
    go_loopw [6, 8] (fun lv iv wr => ∃ i : Nat, i ≤ M.length ∧ iv = .int .i64 i ∧ Hid (wr.ownsRow R2 26 6 lv (F i).length (encP (F i))) ∧ Hid (Gr w2 wr)) (fun _ iv _ => M.length - (intOf iv).toNat)
    case atStart => exact ⟨0, Nat.zero_le _, rfl, Lib.hid (by rw [HF0.out]; exact World.ownsRow_nil _ _ _ _), Lib.hid Gr.rfl'⟩
    case round =>
      obtain ⟨i, hi, rfl, HO, HG2⟩ := hrel
      clear HOM
      have HG := Lib.hid (HGM.out.tr HG2.out)
      have HMr := Lib.hid (HOMr.out.gr HG2.out)
      have hL := HFl.out i
      by_cases hlt : i < M.length
      · have hlt' : (i : Int) < M.length := by omega
        have hS := HFs.out i hlt
        obtain ⟨bl, ol, _, e1, _, hrg⟩ := rd_range ptC 6 pt_len6 HMr.out (by omega)
        replace e1 := (Value.slice.inj e1).1
        subst e1
        have Hq := Lib.hid (hrg i hlt)
        obtain ⟨q, eq⟩ : ∃ q, M[i] = q := ⟨_, rfl⟩
        rw [eq] at Hq hS
        obtain ⟨L, eL⟩ : ∃ L, F i = L := ⟨_, rfl⟩
        rw [eL] at hS hL HO
        have HS := Lib.hid hS
        obtain ⟨la, lc, hlv⟩ := own_slice HO.out
        subst hlv
        clear hrg eq eL hS c1
        go_wp2_with fail
        go_loopw [9, 10] (fun dv kv wx => ∃ k : Nat, k ≤ G.length ∧ kv = .int .i64 k ∧ dv = .bool (decide (q ∈ G.take k)) ∧ Hid (Gr wr wx)) (fun _ kv _ => G.length - (intOf kv).toNat)
        case atStart => exact ⟨0, Nat.zero_le _, rfl, by simp, Lib.hid Gr.rfl'⟩
        case round =>
          obtain ⟨k, hk, rfl, rfl, HX⟩ := hrel
          have cg := keepc (HG.out.tr HX.out) Hcg.out
          have hmi := Hmi.out
          by_cases hkl : k < G.length
          · have hkl' : (k : Int) < G.length := by omega
            obtain ⟨bg, og, _, e1, _, hrg⟩ := rd_range ptC 6 pt_len6 (HRow.out.gr (HG.out.tr HX.out)) (by omega)
            replace e1 := (Value.slice.inj e1).1
            subst e1
            have Hg := Lib.hid (hrg k hkl)
            have Htk := Lib.hid (List.take_succ_eq_append_getElem hkl)
            obtain ⟨g, eg⟩ : ∃ g, G[k] = g := ⟨_, rfl⟩
            rw [eg] at Hg Htk
            have Hq2 := Lib.hid (rangeAt_gr HX.out Hq.out)
            have HT := Lib.hid (show ∀ d t, decide (q ∈ G.take k) = d → decide (g = q) = t → decide (q ∈ G.take (k + 1)) = (d || t) from fun d t e1 e2 => by
              rw [Htk.out, ← e1, ← e2]
              simp [eq_comm])
            obtain ⟨d, ed⟩ : ∃ d, decide (q ∈ G.take k) = d := ⟨_, rfl⟩
            obtain ⟨t, et⟩ : ∃ t, decide (g = q) = t := ⟨_, rfl⟩
            have HTd := Lib.hid (HT.out d t ed et)
            have Het := Lib.hid et
            rw [ed]
            clear hrg eg Htk HT et ed
            cases d with
            | true =>
              go_upto_region 13 with (fail)
              refine region_start (S := fun w' => Gr wr w') (by kernel_rfl) (by exact Gr.dr Gr.rfl') (fun wz hz0 hHeld => ?_)
              simp only [List.size_toArray, List.length_cons, List.length_nil, Nat.reduceAdd]
              refine wpAnyH_take (i := 0) (oi := ?_) (v := ?_) ?_ (by kernel_rfl) (by kernel_rfl) (by kernel_rfl) ?_ ?_ (by assumption) ?_; rotate_left 2; (focus (simp only [List.getElem?_toArray, List.getElem?_cons_zero]; rfl)); (focus (exact fun _ _ _ h => h)); first | (focus (refine Or.inl ⟨by rfl, ?_⟩; intro w hSw; (try dsimp only at hSw); (try dsimp only [Array.getD]); go_simp; (try with_reducible rfl))) | (focus (refine Or.inr ⟨by rfl, ?_⟩; rfl)) | fail "op 0"
              try simp only [Act.put, List.setIfInBounds_toArray, List.set_cons_zero, List.set_cons_succ]
              refine wpAnyH_take (i := 1) (oi := ?_) (v := ?_) ?_ (by kernel_rfl) (by kernel_rfl) (by kernel_rfl) ?_ ?_ (by assumption) ?_; rotate_left 2; (focus (simp only [List.getElem?_toArray, List.getElem?_cons_succ, List.getElem?_cons_zero]; rfl)); (focus (exact fun _ _ _ h => h)); first | (focus (refine Or.inl ⟨by rfl, ?_⟩; intro w hSw; (try dsimp only at hSw); (try dsimp only [Array.getD]); go_simp; (try with_reducible rfl))) | (focus (refine Or.inr ⟨by rfl, ?_⟩; rfl)) | fail "op 1"
              try simp only [Act.put, List.setIfInBounds_toArray, List.set_cons_zero, List.set_cons_succ]
              refine wpAnyH_take (i := 2) (oi := ?_) (v := ?_) ?_ (by kernel_rfl) (by kernel_rfl) (by kernel_rfl) ?_ ?_ (by assumption) ?_; rotate_left 2; (focus (simp only [List.getElem?_toArray, List.getElem?_cons_succ, List.getElem?_cons_zero]; rfl)); (focus (exact fun _ _ _ h => h)); first | (focus (refine Or.inl ⟨by rfl, ?_⟩; intro w hSw; (try dsimp only at hSw); (try dsimp only [Array.getD]); go_simp; (try with_reducible rfl))) | (focus (refine Or.inr ⟨by rfl, ?_⟩; rfl)) | fail "op 2"
              try simp only [Act.put, List.setIfInBounds_toArray, List.set_cons_zero, List.set_cons_succ]
              refine wpAnyH_take (i := 3) (oi := ?_) (v := ?_) ?_ (by kernel_rfl) (by kernel_rfl) (by kernel_rfl) ?_ ?_ (by assumption) ?_; rotate_left 2; (focus (simp only [List.getElem?_toArray, List.getElem?_cons_succ, List.getElem?_cons_zero]; rfl)); (focus (exact fun _ _ _ h => h)); first | (focus (refine Or.inl ⟨by rfl, ?_⟩; intro w hSw; (try dsimp only at hSw); (try dsimp only [Array.getD]); go_simp; (try with_reducible rfl))) | (focus (refine Or.inr ⟨by rfl, ?_⟩; rfl)) | fail "op 3"
              try simp only [Act.put, List.setIfInBounds_toArray, List.set_cons_zero, List.set_cons_succ]
              refine wpAnyH_take (i := 4) (oi := ?_) (v := ?_) ?_ (by kernel_rfl) (by kernel_rfl) (by kernel_rfl) ?_ ?_ (by assumption) ?_; rotate_left 2; (focus (simp only [List.getElem?_toArray, List.getElem?_cons_succ, List.getElem?_cons_zero]; rfl)); (focus (exact fun _ _ _ h => h)); first | (focus (refine Or.inl ⟨by rfl, ?_⟩; intro w hSw; (try dsimp only at hSw); (try dsimp only [Array.getD]); go_simp; (try with_reducible rfl))) | (focus (refine Or.inr ⟨by rfl, ?_⟩; rfl)) | fail "op 4"
              try simp only [Act.put, List.setIfInBounds_toArray, List.set_cons_zero, List.set_cons_succ]
              refine wpAnyH_take (i := 5) (oi := ?_) (v := ?_) ?_ (by kernel_rfl) (by kernel_rfl) (by kernel_rfl) ?_ ?_ (by assumption) ?_; rotate_left 2; (focus (simp only [List.getElem?_toArray, List.getElem?_cons_succ, List.getElem?_cons_zero]; rfl)); (focus (exact fun _ _ _ h => h)); first | (focus (refine Or.inl ⟨by rfl, ?_⟩; intro w hSw; (try dsimp only at hSw); (try dsimp only [Array.getD]); go_simp; (try with_reducible rfl))) | (focus (refine Or.inr ⟨by rfl, ?_⟩; rfl)) | fail "op 5"
              try simp only [Act.put, List.setIfInBounds_toArray, List.set_cons_zero, List.set_cons_succ]
              refine wpAnyH_take (i := 6) (oi := ?_) (v := ?_) ?_ (by kernel_rfl) (by kernel_rfl) (by kernel_rfl) ?_ ?_ (by assumption) ?_; rotate_left 2; (focus (simp only [List.getElem?_toArray, List.getElem?_cons_succ, List.getElem?_cons_zero]; rfl)); (focus (exact fun _ _ _ h => h)); first | (focus (refine Or.inl ⟨by rfl, ?_⟩; intro w hSw; (try dsimp only at hSw); (try dsimp only [Array.getD]); go_simp; (try with_reducible rfl))) | (focus (refine Or.inr ⟨by rfl, ?_⟩; rfl)) | fail "op 6"
              try simp only [Act.put, List.setIfInBounds_toArray, List.set_cons_zero, List.set_cons_succ]
              refine wpAnyH_take (i := 7) (oi := ?_) (v := ?_) ?_ (by kernel_rfl) (by kernel_rfl) (by kernel_rfl) ?_ ?_ (by assumption) ?_; rotate_left 2; (focus (simp only [List.getElem?_toArray, List.getElem?_cons_succ, List.getElem?_cons_zero]; rfl)); (focus (exact fun _ _ _ h => h)); first | (focus (refine Or.inl ⟨by rfl, ?_⟩; intro w hSw; (try dsimp only at hSw); (try dsimp only [Array.getD]); go_simp; (try with_reducible rfl))) | (focus (refine Or.inr ⟨by rfl, ?_⟩; rfl)) | fail "op 7"
              try simp only [Act.put, List.setIfInBounds_toArray, List.set_cons_zero, List.set_cons_succ]
              refine wpAnyH_take (i := 8) (oi := ?_) (v := ?_) ?_ (by kernel_rfl) (by kernel_rfl) (by kernel_rfl) ?_ ?_ (by assumption) ?_; rotate_left 2; (focus (simp only [List.getElem?_toArray, List.getElem?_cons_succ, List.getElem?_cons_zero]; rfl)); (focus (exact fun _ _ _ h => h)); first | (focus (refine Or.inl ⟨by rfl, ?_⟩; intro w hSw; (try dsimp only at hSw); (try dsimp only [Array.getD]); go_simp; (try with_reducible rfl))) | (focus (refine Or.inr ⟨by rfl, ?_⟩; rfl)) | fail "op 8"
              try simp only [Act.put, List.setIfInBounds_toArray, List.set_cons_zero, List.set_cons_succ]
              refine wpAnyH_take (i := 9) (oi := ?_) (v := ?_) ?_ (by kernel_rfl) (by kernel_rfl) (by kernel_rfl) ?_ ?_ (by assumption) ?_; rotate_left 2; (focus (simp only [List.getElem?_toArray, List.getElem?_cons_succ, List.getElem?_cons_zero]; rfl)); (focus (exact fun _ _ _ h => h)); first | (focus (refine Or.inl ⟨by rfl, ?_⟩; intro w hSw; (try dsimp only at hSw); (try dsimp only [Array.getD]); go_simp; (try with_reducible rfl))) | (focus (refine Or.inr ⟨by rfl, ?_⟩; rfl)) | fail "op 9"
              try simp only [Act.put, List.setIfInBounds_toArray, List.set_cons_zero, List.set_cons_succ]
              refine wpAnyH_take (i := 10) (oi := ?_) (v := ?_) ?_ (by kernel_rfl) (by kernel_rfl) (by kernel_rfl) ?_ ?_ (by assumption) ?_; rotate_left 2; (focus (simp only [List.getElem?_toArray, List.getElem?_cons_succ, List.getElem?_cons_zero]; rfl)); (focus (exact fun _ _ _ h => h)); first | (focus (refine Or.inl ⟨by rfl, ?_⟩; intro w hSw; (try dsimp only at hSw); (try dsimp only [Array.getD]); go_simp; (try with_reducible rfl))) | (focus (refine Or.inr ⟨by rfl, ?_⟩; rfl)) | fail "op 10"
              try simp only [Act.put, List.setIfInBounds_toArray, List.set_cons_zero, List.set_cons_succ]
              refine wpAnyH_take (i := 11) (oi := ?_) (v := ?_) ?_ (by kernel_rfl) (by kernel_rfl) (by kernel_rfl) ?_ ?_ (by assumption) ?_; rotate_left 2; (focus (simp only [List.getElem?_toArray, List.getElem?_cons_succ, List.getElem?_cons_zero]; rfl)); (focus (exact fun _ _ _ h => h)); first | (focus (refine Or.inl ⟨by rfl, ?_⟩; intro w hSw; (try dsimp only at hSw); (try dsimp only [Array.getD]); go_simp; (try with_reducible rfl))) | (focus (refine Or.inr ⟨by rfl, ?_⟩; rfl)) | fail "op 11"
              try simp only [Act.put, List.setIfInBounds_toArray, List.set_cons_zero, List.set_cons_succ]
              refine wpAnyH_take (i := 12) (oi := ?_) (v := ?_) ?_ (by kernel_rfl) (by kernel_rfl) (by kernel_rfl) ?_ ?_ (by assumption) ?_; rotate_left 2; (focus (simp only [List.getElem?_toArray, List.getElem?_cons_succ, List.getElem?_cons_zero]; rfl)); (focus (exact fun _ _ _ h => h)); first | (focus (refine Or.inl ⟨by rfl, ?_⟩; intro w hSw; (try dsimp only at hSw); (try dsimp only [Array.getD]); go_simp; (try with_reducible rfl))) | (focus (refine Or.inr ⟨by rfl, ?_⟩; rfl)) | fail "op 12"
              try simp only [Act.put, List.setIfInBounds_toArray, List.set_cons_zero, List.set_cons_succ]
              refine wpAnyH_take (i := 13) (oi := ?_) (v := ?_) ?_ (by kernel_rfl) (by kernel_rfl) (by kernel_rfl) ?_ ?_ (by assumption) ?_; rotate_left 2; (focus (simp only [List.getElem?_toArray, List.getElem?_cons_succ, List.getElem?_cons_zero]; rfl)); (focus (exact fun _ _ _ h => h)); first | (focus (refine Or.inl ⟨by rfl, ?_⟩; intro w hSw; (try dsimp only at hSw); (try dsimp only [Array.getD]); go_simp; (try with_reducible rfl))) | (focus (refine Or.inr ⟨by rfl, ?_⟩; rfl)) | fail "op 13"
              try simp only [Act.put, List.setIfInBounds_toArray, List.set_cons_zero, List.set_cons_succ]
              refine wpAnyH_take (i := 14) (oi := ?_) (v := ?_) ?_ (by kernel_rfl) (by kernel_rfl) (by kernel_rfl) ?_ ?_ (by assumption) ?_; rotate_left 2; (focus (simp only [List.getElem?_toArray, List.getElem?_cons_succ, List.getElem?_cons_zero]; rfl)); (focus (exact fun _ _ _ h => h)); first | (focus (refine Or.inl ⟨by rfl, ?_⟩; intro w hSw; (try dsimp only at hSw); (try dsimp only [Array.getD]); go_simp; (try with_reducible rfl))) | (focus (refine Or.inr ⟨by rfl, ?_⟩; rfl)) | fail "op 14"
              try simp only [Act.put, List.setIfInBounds_toArray, List.set_cons_zero, List.set_cons_succ]
              refine wpAnyH_take (i := 15) (oi := ?_) (v := ?_) ?_ (by kernel_rfl) (by kernel_rfl) (by kernel_rfl) ?_ ?_ (by assumption) ?_; rotate_left 2; (focus (simp only [List.getElem?_toArray, List.getElem?_cons_succ, List.getElem?_cons_zero]; rfl)); (focus (exact fun _ _ _ h => h)); first | (focus (refine Or.inl ⟨by rfl, ?_⟩; intro w hSw; (try dsimp only at hSw); (try dsimp only [Array.getD]); go_simp; (try with_reducible rfl))) | (focus (refine Or.inr ⟨by rfl, ?_⟩; rfl)) | fail "op 15"
              try simp only [Act.put, List.setIfInBounds_toArray, List.set_cons_zero, List.set_cons_succ]
              refine wpAnyH_take (i := 16) (oi := ?_) (v := ?_) ?_ (by kernel_rfl) (by kernel_rfl) (by kernel_rfl) ?_ ?_ (by assumption) ?_; rotate_left 2; (focus (simp only [List.getElem?_toArray, List.getElem?_cons_succ, List.getElem?_cons_zero]; rfl)); (focus (exact fun _ _ _ h => h)); first | (focus (refine Or.inl ⟨by rfl, ?_⟩; intro w hSw; (try dsimp only at hSw); (try dsimp only [Array.getD]); go_simp; (try with_reducible rfl))) | (focus (refine Or.inr ⟨by rfl, ?_⟩; rfl)) | fail "op 16"
              try simp only [Act.put, List.setIfInBounds_toArray, List.set_cons_zero, List.set_cons_succ]
              refine wpAnyH_take (i := 17) (oi := ?_) (v := ?_) ?_ (by kernel_rfl) (by kernel_rfl) (by kernel_rfl) ?_ ?_ (by assumption) ?_; rotate_left 2; (focus (simp only [List.getElem?_toArray, List.getElem?_cons_succ, List.getElem?_cons_zero]; rfl)); (focus (exact fun _ _ _ h => h)); first | (focus (refine Or.inl ⟨by rfl, ?_⟩; intro w hSw; (try dsimp only at hSw); (try dsimp only [Array.getD]); go_simp; (try with_reducible rfl))) | (focus (refine Or.inr ⟨by rfl, ?_⟩; rfl)) | fail "op 17"
              try simp only [Act.put, List.setIfInBounds_toArray, List.set_cons_zero, List.set_cons_succ]
              refine wpAnyH_done (by kernel_rfl) ?_ _
              have G6 := Lib.hid (HX.out.tr hHeld)
              clear hHeld hz0
              go_wp2_with fail
              go_roundw
              case rel => exact ⟨k + 1, by omega, by go_num, by rw [HTd.out]; rfl, G6⟩
              case measure => simp [intOf]; omega
            | false =>
              go_upto_region 13 with (fail)
              refine region_start (S := fun w' => Gr wr w') (by kernel_rfl) (by exact Gr.dr Gr.rfl') (fun wz hz0 hHeld => ?_)
              simp only [List.size_toArray, List.length_cons, List.length_nil, Nat.reduceAdd]
              refine wpAnyH_take (i := 0) (oi := ?_) (v := ?_) ?_ (by kernel_rfl) (by kernel_rfl) (by kernel_rfl) ?_ ?_ (by assumption) ?_; rotate_left 2; (focus (simp only [List.getElem?_toArray, List.getElem?_cons_zero]; rfl)); (focus (exact fun _ _ _ h => h)); first | (focus (refine Or.inl ⟨by rfl, ?_⟩; intro w hSw; (try dsimp only at hSw); (try dsimp only [Array.getD]); go_simp; (try with_reducible rfl))) | (focus (refine Or.inr ⟨by rfl, ?_⟩; rfl)) | fail "op 0"
              try simp only [Act.put, List.setIfInBounds_toArray, List.set_cons_zero, List.set_cons_succ]
              refine wpAnyH_take (i := 1) (oi := ?_) (v := ?_) ?_ (by kernel_rfl) (by kernel_rfl) (by kernel_rfl) ?_ ?_ (by assumption) ?_; rotate_left 2; (focus (simp only [List.getElem?_toArray, List.getElem?_cons_succ, List.getElem?_cons_zero]; rfl)); (focus (exact fun _ _ _ h => h)); first | (focus (refine Or.inl ⟨by rfl, ?_⟩; intro w hSw; (try dsimp only at hSw); (try dsimp only [Array.getD]); go_simp; (try with_reducible rfl))) | (focus (refine Or.inr ⟨by rfl, ?_⟩; rfl)) | fail "op 1"
              try simp only [Act.put, List.setIfInBounds_toArray, List.set_cons_zero, List.set_cons_succ]
              refine wpAnyH_take (i := 2) (oi := ?_) (v := ?_) ?_ (by kernel_rfl) (by kernel_rfl) (by kernel_rfl) ?_ ?_ (by assumption) ?_; rotate_left 2; (focus (simp only [List.getElem?_toArray, List.getElem?_cons_succ, List.getElem?_cons_zero]; rfl)); (focus (exact fun _ _ _ h => h)); first | (focus (refine Or.inl ⟨by rfl, ?_⟩; intro w hSw; (try dsimp only at hSw); (try dsimp only [Array.getD]); go_simp; (try with_reducible rfl))) | (focus (refine Or.inr ⟨by rfl, ?_⟩; rfl)) | fail "op 2"
              try simp only [Act.put, List.setIfInBounds_toArray, List.set_cons_zero, List.set_cons_succ]
              refine wpAnyH_take (i := 3) (oi := ?_) (v := ?_) ?_ (by kernel_rfl) (by kernel_rfl) (by kernel_rfl) ?_ ?_ (by assumption) ?_; rotate_left 2; (focus (simp only [List.getElem?_toArray, List.getElem?_cons_succ, List.getElem?_cons_zero]; rfl)); (focus (exact fun _ _ _ h => h)); first | (focus (refine Or.inl ⟨by rfl, ?_⟩; intro w hSw; (try dsimp only at hSw); (try dsimp only [Array.getD]); go_simp; (try with_reducible rfl))) | (focus (refine Or.inr ⟨by rfl, ?_⟩; rfl)) | fail "op 3"
              try simp only [Act.put, List.setIfInBounds_toArray, List.set_cons_zero, List.set_cons_succ]
              refine wpAnyH_take (i := 4) (oi := ?_) (v := ?_) ?_ (by kernel_rfl) (by kernel_rfl) (by kernel_rfl) ?_ ?_ (by assumption) ?_; rotate_left 2; (focus (simp only [List.getElem?_toArray, List.getElem?_cons_succ, List.getElem?_cons_zero]; rfl)); (focus (exact fun _ _ _ h => h)); first | (focus (refine Or.inl ⟨by rfl, ?_⟩; intro w hSw; (try dsimp only at hSw); (try dsimp only [Array.getD]); go_simp; (try with_reducible rfl))) | (focus (refine Or.inr ⟨by rfl, ?_⟩; rfl)) | fail "op 4"
              try simp only [Act.put, List.setIfInBounds_toArray, List.set_cons_zero, List.set_cons_succ]
              refine wpAnyH_take (i := 5) (oi := ?_) (v := ?_) ?_ (by kernel_rfl) (by kernel_rfl) (by kernel_rfl) ?_ ?_ (by assumption) ?_; rotate_left 2; (focus (simp only [List.getElem?_toArray, List.getElem?_cons_succ, List.getElem?_cons_zero]; rfl)); (focus (exact fun _ _ _ h => h)); first | (focus (refine Or.inl ⟨by rfl, ?_⟩; intro w hSw; (try dsimp only at hSw); (try dsimp only [Array.getD]); go_simp; (try with_reducible rfl))) | (focus (refine Or.inr ⟨by rfl, ?_⟩; rfl)) | fail "op 5"
              try simp only [Act.put, List.setIfInBounds_toArray, List.set_cons_zero, List.set_cons_succ]
              refine wpAnyH_take (i := 6) (oi := ?_) (v := ?_) ?_ (by kernel_rfl) (by kernel_rfl) (by kernel_rfl) ?_ ?_ (by assumption) ?_; rotate_left 2; (focus (simp only [List.getElem?_toArray, List.getElem?_cons_succ, List.getElem?_cons_zero]; rfl)); (focus (exact fun _ _ _ h => h)); first | (focus (refine Or.inl ⟨by rfl, ?_⟩; intro w hSw; (try dsimp only at hSw); have hmi := Hmi.out; (try dsimp only [Array.getD]); go_simp; (try with_reducible rfl))) | (focus (refine Or.inr ⟨by rfl, ?_⟩; rfl)) | fail "op 6"
              try simp only [Act.put, List.setIfInBounds_toArray, List.set_cons_zero, List.set_cons_succ]
              refine wpAnyH_take (i := 7) (oi := ?_) (v := ?_) ?_ (by kernel_rfl) (by kernel_rfl) (by kernel_rfl) ?_ ?_ (by assumption) ?_; rotate_left 2; (focus (simp only [List.getElem?_toArray, List.getElem?_cons_succ, List.getElem?_cons_zero]; rfl)); (focus (exact fun _ _ _ h => h)); first | (focus (refine Or.inl ⟨by rfl, ?_⟩; intro w hSw; (try dsimp only at hSw); have cg := keepc hSw cg; (try dsimp only [Array.getD]); go_simp; (try with_reducible rfl))) | (focus (refine Or.inr ⟨by rfl, ?_⟩; rfl)) | fail "op 7"
              try simp only [Act.put, List.setIfInBounds_toArray, List.set_cons_zero, List.set_cons_succ]
              refine wpAnyH_take (i := 8) (oi := ?_) (v := ?_) ?_ (by kernel_rfl) (by kernel_rfl) (by kernel_rfl) ?_ ?_ (by assumption) ?_; rotate_left 2; (focus (simp only [List.getElem?_toArray, List.getElem?_cons_succ, List.getElem?_cons_zero]; rfl)); (focus (exact fun _ _ _ h => h)); first | (focus (refine Or.inl ⟨by rfl, ?_⟩; intro w hSw; (try dsimp only at hSw); (try dsimp only [Array.getD]); go_simp; (try with_reducible rfl))) | (focus (refine Or.inr ⟨by rfl, ?_⟩; rfl)) | fail "op 8"
              try simp only [Act.put, List.setIfInBounds_toArray, List.set_cons_zero, List.set_cons_succ]
              refine wpAnyH_take (i := 9) (oi := ?_) (v := ?_) ?_ (by kernel_rfl) (by kernel_rfl) (by kernel_rfl) ?_ ?_ (by assumption) ?_; rotate_left 2; (focus (simp only [List.getElem?_toArray, List.getElem?_cons_succ, List.getElem?_cons_zero]; rfl)); (focus (exact fun _ _ _ h => h)); first | (focus (refine Or.inl ⟨by rfl, ?_⟩; intro w hSw; (try dsimp only at hSw); (try dsimp only [Array.getD]); go_simp; (try with_reducible rfl))) | (focus (refine Or.inr ⟨by rfl, ?_⟩; rfl)) | fail "op 9"
              try simp only [Act.put, List.setIfInBounds_toArray, List.set_cons_zero, List.set_cons_succ]
              refine wpAnyH_take (i := 10) (oi := ?_) (v := ?_) ?_ (by kernel_rfl) (by kernel_rfl) (by kernel_rfl) ?_ ?_ (by assumption) ?_; rotate_left 2; (focus (simp only [List.getElem?_toArray, List.getElem?_cons_succ, List.getElem?_cons_zero]; rfl)); (focus (exact fun _ _ _ h => h)); first | (focus (refine Or.inl ⟨by rfl, ?_⟩; intro w hSw; (try dsimp only at hSw); refine (exec_load_mid 26 (.tmp 47) (by rfl) bg (og + k * 6) (by rfl) (ptC g) _ (rangeAt_gr hSw Hg.out) Try.underlying26 rfl info_pt).trans ?_; with_reducible rfl)) | (focus (refine Or.inr ⟨by rfl, ?_⟩; rfl)) | fail "op 10"
              try simp only [Act.put, List.setIfInBounds_toArray, List.set_cons_zero, List.set_cons_succ]
              refine wpAnyH_take (i := 11) (oi := ?_) (v := ?_) ?_ (by kernel_rfl) (by kernel_rfl) (by kernel_rfl) ?_ ?_ (by assumption) ?_; rotate_left 2; (focus (simp only [List.getElem?_toArray, List.getElem?_cons_succ, List.getElem?_cons_zero]; rfl)); (focus (exact fun _ _ _ h => h)); first | (focus (refine Or.inl ⟨by rfl, ?_⟩; intro w hSw; (try dsimp only at hSw); (try dsimp only [Array.getD]); go_simp; (try with_reducible rfl))) | (focus (refine Or.inr ⟨by rfl, ?_⟩; rfl)) | fail "op 11"
              try simp only [Act.put, List.setIfInBounds_toArray, List.set_cons_zero, List.set_cons_succ]
              refine wpAnyH_take (i := 12) (oi := ?_) (v := ?_) ?_ (by kernel_rfl) (by kernel_rfl) (by kernel_rfl) ?_ ?_ (by assumption) ?_; rotate_left 2; (focus (simp only [List.getElem?_toArray, List.getElem?_cons_succ, List.getElem?_cons_zero]; rfl)); (focus (exact fun _ _ _ h => h)); first | (focus (refine Or.inl ⟨by rfl, ?_⟩; intro w hSw; (try dsimp only at hSw); (try dsimp only [Array.getD]); go_simp; (try with_reducible rfl))) | (focus (refine Or.inr ⟨by rfl, ?_⟩; rfl)) | fail "op 12"
              try simp only [Act.put, List.setIfInBounds_toArray, List.set_cons_zero, List.set_cons_succ]
              refine wpAnyH_take (i := 13) (oi := ?_) (v := ?_) ?_ (by kernel_rfl) (by kernel_rfl) (by kernel_rfl) ?_ ?_ (by assumption) ?_; rotate_left 2; (focus (simp only [List.getElem?_toArray, List.getElem?_cons_succ, List.getElem?_cons_zero]; rfl)); (focus (exact fun _ _ _ h => h)); first | (focus (refine Or.inl ⟨by rfl, ?_⟩; intro w hSw; (try dsimp only at hSw); (try dsimp only [Array.getD]); go_simp; (try with_reducible rfl))) | (focus (refine Or.inr ⟨by rfl, ?_⟩; rfl)) | fail "op 13"
              try simp only [Act.put, List.setIfInBounds_toArray, List.set_cons_zero, List.set_cons_succ]
              refine wpAnyH_take (i := 14) (oi := ?_) (v := ?_) ?_ (by kernel_rfl) (by kernel_rfl) (by kernel_rfl) ?_ ?_ (by assumption) ?_; rotate_left 2; (focus (simp only [List.getElem?_toArray, List.getElem?_cons_succ, List.getElem?_cons_zero]; rfl)); (focus (exact fun _ _ _ h => h)); first | (focus (refine Or.inl ⟨by rfl, ?_⟩; intro w hSw; (try dsimp only at hSw); refine (exec_load_mid 26 (.tmp 51) (by rfl) bl (ol + i * 6) (by rfl) (ptC q) _ (rangeAt_gr hSw Hq2.out) Try.underlying26 rfl info_pt).trans ?_; with_reducible rfl)) | (focus (refine Or.inr ⟨by rfl, ?_⟩; rfl)) | fail "op 14"
              try simp only [Act.put, List.setIfInBounds_toArray, List.set_cons_zero, List.set_cons_succ]
              refine wpAnyH_take (i := 15) (oi := ?_) (v := ?_) ?_ (by kernel_rfl) (by kernel_rfl) (by kernel_rfl) ?_ ?_ (by assumption) ?_; rotate_left 2; (focus (simp only [List.getElem?_toArray, List.getElem?_cons_succ, List.getElem?_cons_zero]; rfl)); (focus (exact fun _ _ _ h => h)); first | (focus (refine Or.inl ⟨by rfl, ?_⟩; intro w hSw; (try dsimp only at hSw); refine (exec_eql_pt (.tmp 48) (.tmp 52) (by rfl) g q (by rfl) (by rfl)).trans ?_; rw [Het.out])) | (focus (refine Or.inr ⟨by rfl, ?_⟩; rfl)) | fail "op 15"
              try simp only [Act.put, List.setIfInBounds_toArray, List.set_cons_zero, List.set_cons_succ]
              refine wpAnyH_take (i := 16) (oi := ?_) (v := ?_) ?_ (by kernel_rfl) (by kernel_rfl) (by kernel_rfl) ?_ ?_ (by assumption) ?_; rotate_left 2; (focus (simp only [List.getElem?_toArray, List.getElem?_cons_succ, List.getElem?_cons_zero]; rfl)); (focus (exact fun _ _ _ h => h)); first | (focus (refine Or.inl ⟨by rfl, ?_⟩; intro w hSw; (try dsimp only at hSw); (try dsimp only [Array.getD]); go_simp; (try with_reducible rfl))) | (focus (refine Or.inr ⟨by rfl, ?_⟩; rfl)) | fail "op 16"
              try simp only [Act.put, List.setIfInBounds_toArray, List.set_cons_zero, List.set_cons_succ]
              refine wpAnyH_take (i := 17) (oi := ?_) (v := ?_) ?_ (by kernel_rfl) (by kernel_rfl) (by kernel_rfl) ?_ ?_ (by assumption) ?_; rotate_left 2; (focus (simp only [List.getElem?_toArray, List.getElem?_cons_succ, List.getElem?_cons_zero]; rfl)); (focus (exact fun _ _ _ h => h)); first | (focus (refine Or.inl ⟨by rfl, ?_⟩; intro w hSw; (try dsimp only at hSw); (try dsimp only [Array.getD]); go_simp; (try with_reducible rfl))) | (focus (refine Or.inr ⟨by rfl, ?_⟩; rfl)) | fail "op 17"
              try simp only [Act.put, List.setIfInBounds_toArray, List.set_cons_zero, List.set_cons_succ]
              refine wpAnyH_done (by kernel_rfl) ?_ _
              have G6 := Lib.hid (HX.out.tr hHeld)
              clear hHeld hz0
              go_wp2_with fail
              go_roundw
              case rel => exact ⟨k + 1, by omega, by go_num, by rw [HTd.out]; rfl, G6⟩
              case measure => simp [intOf]; omega
          · obtain rfl : k = G.length := by omega
            have hd : decide (q ∈ G.take G.length) = decide (q ∈ G) := by rw [List.take_length]
            rw [hd]
            have HGx := Lib.hid (HG2.out.tr HX.out)
            have HOx := Lib.hid (own_gr HO.out HX.out)
            have Hq2 := Lib.hid (rangeAt_gr HX.out Hq.out)
            obtain ⟨d, ed⟩ : ∃ d, decide (q ∈ G) = d := ⟨_, rfl⟩
            have HSd := Lib.hid (show F (i + 1) = L ++ if d = true then [] else [q] by
              rw [HS.out, ← ed]
              by_cases h : q ∈ G <;> simp [h])
            rw [ed]
            clear hkl hd ed
            cases d with
            | true =>
              have HO6 := Lib.hid (show wr.ownsRow R2 26 6 (.slice la L.length lc) (F (i + 1)).length (encP (F (i + 1))) from by rw [HSd.out]; simpa using HOx.out)
              go_wp2_with fail
              go_roundw
              case rel => exact ⟨i + 1, by omega, by go_num, HO6, HGx⟩
              case measure => simp [intOf]; omega
            | false =>
              go_wp2_with (first | (refine wpList_load_mid rfl 26 (.tmp 60) rfl bl (ol + i * 6) rfl (ptC q) _ Hq2.out Try.underlying26 rfl info_pt ?_) | (at_builtin; refine Hid.out ?_))
              apply Lib.hid
              have hgw := Gr.al (Gr.rfl' (w := wr)) (.cells (ptC q).toArray 26)
              have hA := heap_alloc_new wr (.cells (ptC q).toArray 26)
              refine wpList_snoc ptC 6 56 (fun _ => rfl) (by decide) (by decide) ptC_one6 rfl (.tmp 57) (.tmp 62) 37 rfl R2 26 _ Try.underlying37 infoPt rfl (.slice la L.length lc) L rfl (own_gr HOx.out hgw) q wr.heap.size rfl hA (by omega) (by have h1 := HGx.out.size; have h2 := HR2.out; simp; omega) (fun a6 c6 w6 ho6 hg6 hat6 => ?_)
              have HO6 := Lib.hid (show w6.ownsRow R2 26 6 (.slice a6 (L.length + 1) c6) (F (i + 1)).length (encP (F (i + 1))) from by rw [HSd.out]; exact ho6)
              have HG6 := Lib.hid (gr_gb (HGx.out.tr hgw) hg6 (fun j hj => by rw [HR2.out]; exact (HOx.out.lt j hj).1))
              clear ho6 hg6 hat6 hgw hA
              go_wp2_with fail
              go_roundw
              case rel => exact ⟨i + 1, by omega, by go_num, HO6, HG6⟩
              case measure => simp [intOf]; omega
      · obtain rfl : i = M.length := by omega
        obtain ⟨la, lc, hlv⟩ := own_slice HO.out
        subst hlv
        have HF := Lib.hid (HD.out _ _ ⟨_, rfl, by rw [← HFn.out]; exact own_mono HO.out (by rw [← HR2.out, ← HR.out]; exact HGM.out.size), HG.out⟩)
        clear hlt
        go_wp2_with fail
        go_ret
        exact HF.out
  · have HP := Lib.hid (show RrepPost w N gl n (.returned (.slice none 0 0)) w from ⟨_, rfl, by unfold rrepL; rw [if_neg h1]; exact World.ownsRow_nil _ _ _ _, Gr.rfl'⟩)
    rw [decide_eq_false h1] at HC
    clear h h1
    go_enter Try.func31, Try.ntmps31
    go_wp2_with (go_at_call 52; refine HC.out.mono ?_; rintro e w1 ⟨rfl, rfl⟩)
    go_ret
    exact HP.out
end Go.Proofs.Ytpnpnjfflblkpaa

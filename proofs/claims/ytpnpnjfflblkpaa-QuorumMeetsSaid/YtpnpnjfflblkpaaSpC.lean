/- The reference's Sort of points; the package's. -/
import Derived.Test.YtpnpnjfflblkpaaSpB
import Derived.Test.YtpnpnjfflblkpaaStH
namespace Go.Proofs.Ytpnpnjfflblkpaa
open Go.RowKit Go.Maps Go.Sort

set_option maxRecDepth 100000 in
set_option maxHeartbeats 4000000 in
theorem rsort_calls (v : Value) (l : List Pt) (w : World) (hv : rdRow w 6 v l.length (encP l)) (hk : l.length ≤ 100000) :
    Calls Try.prog 19 #[v] w fun e w' => ∃ v', e = .returned v' ∧ w'.ownsRow w.heap.size 26 6 v' (sortP l).length (encP (sortP l)) ∧ Gr w w' := by
  obtain ⟨ua, uc, rfl⟩ : ∃ a c, v = .slice a l.length c := by obtain ⟨_, a, c, e, h, _⟩ := hv; exact ⟨a, c, e⟩
  have HV := Lib.hid hv
  obtain ⟨N, eN⟩ : ∃ N, w.heap.size = N := ⟨_, rfl⟩
  have EN := Lib.hid eN
  rw [eN]
  have HT := Lib.hid (show sortP (l.take l.length) = sortP l by rw [List.take_length])
  have H0 := Lib.hid (show sortP (l.take 0) = [] from rfl)
  clear hv eN
  go_enter Try.func19, Try.ntmps19
  go_wp2_with fail
  go_loopw [3, 4] (fun ov iv wr => ∃ i : Nat, i ≤ l.length ∧ iv = .int .i64 i ∧ Hid (wr.ownsRow N 26 6 ov (sortP (l.take i)).length (encP (sortP (l.take i)))) ∧ Hid (Gr w wr)) (fun _ iv _ => l.length - (intOf iv).toNat)
  case atStart => exact ⟨0, Nat.zero_le _, rfl, Lib.hid (by rw [H0.out]; exact World.ownsRow_nil _ _ _ _), Lib.hid Gr.rfl'⟩
  case round =>
    obtain ⟨i, hi, rfl, HO, HG⟩ := hrel
    by_cases hlt : i < l.length
    · have hlt' : (i : Int) < l.length := by omega
      obtain ⟨bp, op, _, e1, _, hrg⟩ := rd_range ptC 6 pt_len6 (HV.out.gr HG.out) (by omega)
      replace e1 := (Value.slice.inj e1).1
      subst e1
      have Hz := Lib.hid (hrg i hlt)
      have Hs := Lib.hid (show putP (sortP (l.take i)) l[i] = sortP (l.take (i + 1)) by rw [List.take_succ_eq_append_getElem hlt, sortP_snoc])
      obtain ⟨z, ez⟩ : ∃ z, l[i] = z := ⟨_, rfl⟩
      rw [ez] at Hz Hs
      have hsl : (sortP (l.take i)).length ≤ 100000 := Nat.le_trans (sortP_len _) (by rw [List.length_take]; omega)
      have Hsl := Lib.hid hsl
      clear hrg ez hsl
      go_wp2_with (first | (refine wpList_load_mid rfl 26 (.tmp 14) rfl bp (op + i * 6) rfl (ptC z) _ Hz.out Try.underlying26 rfl info_pt ?_))
      refine (rput_calls _ _ _ (rdRow_of_own HO.out) Hsl.out z).mono ?_
      rintro e w3 ⟨v3, rfl, ho, hg⟩
      rw [Hs.out] at ho
      have HO3 := Lib.hid (own_mono ho (show N ≤ wr.heap.size by have := HG.out.size; have := EN.out; omega))
      have HG3 := Lib.hid (HG.out.tr hg)
      clear ho hg
      go_wp2_with fail
      go_roundw
      case rel => exact ⟨i + 1, by omega, by go_num, HO3, HG3⟩
      case measure => simp [intOf]; omega
    · obtain rfl : i = l.length := by omega
      clear hlt
      go_wp2_with fail
      go_ret
      exact ⟨_, rfl, by rw [← HT.out]; exact HO.out, HG.out⟩
set_option maxRecDepth 100000 in
set_option maxHeartbeats 8000000 in
theorem bsort_calls (v : Value) (l : List Pt) (w : World) (hv : rdRow w 6 v l.length (encP l)) (hk : l.length ≤ 100000) :
    Calls Try.prog 46 #[v] w fun e w' => ∃ v', e = .returned v' ∧ w'.ownsRow w.heap.size 26 6 v' (sortP l).length (encP (sortP l)) ∧ Gr w w' := by
  have HV := Lib.hid hv
  have hk2 : l.length ≤ 1000000 := by omega
  clear hv
  go_enter Try.func46, Try.ntmps46
  go_wp2_with fail
  go_step3
  go_wp2_with fail
  refine (clonep_calls v l _ HV.out hk2).mono ?_
  rintro e w1 ⟨v1, rfl, ho1, hg1⟩
  have HO1 := Lib.hid ho1
  have HG1 := Lib.hid hg1
  clear ho1 hg1
  go_wp2_with fail
  refine (stabp_calls l hk2 v1 _ _ HO1.out).mono ?_
  rintro e w2 ⟨rfl, T, hT, hst, ho2, hg2⟩
  obtain ⟨a2, c2, e2⟩ := own_slice ho2
  subst e2
  have HTs := Lib.hid hT
  have Hres := Lib.hid (show sortP T = sortP l from sortP_congr hst.key)
  have HTl := Lib.hid (show T.length = l.length from hst.len)
  have hT9 : T.length ≤ 100000 := by rw [HTl.out]; exact hk
  have HO2 := Lib.hid ho2
  have HG2 := Lib.hid (gr_gb HG1.out hg2 (fun j hj => (HO1.out.lt j hj).1))
  clear ho2 hg2 hT hst HO1
  obtain ⟨N, eN⟩ : ∃ N, w2.heap.size = N := ⟨_, rfl⟩
  have EN := Lib.hid eN
  have HNw := Lib.hid (show w.heap.size ≤ N by have := HG2.out.size; omega)
  have HTk := Lib.hid (show sortP (T.take T.length) = sortP l by rw [List.take_length, Hres.out])
  have H0 := Lib.hid (show sortP (T.take 0) = [] from rfl)
  clear eN
  go_wp2_with fail
  go_step3
  go_wp2_with fail
  go_loopw [4, 14] (fun ov iv wr => ∃ i : Nat, i ≤ T.length ∧ iv = .int .i64 i ∧ Hid (wr.ownsRow N 26 6 ov (sortP (T.take i)).length (encP (sortP (T.take i)))) ∧ Hid (Gr w2 wr)) (fun _ iv _ => T.length - (intOf iv).toNat)
  case atStart => exact ⟨0, Nat.zero_le _, rfl, Lib.hid (by rw [H0.out]; exact World.ownsRow_nil _ _ _ _), Lib.hid Gr.rfl'⟩
  case round =>
    obtain ⟨i, hi, rfl, HO, HG⟩ := hrel
    obtain ⟨ua, uc, rfl⟩ := own_slice HO.out
    by_cases hlt : i < T.length
    · have hlt' : (i : Int) < T.length := by omega
      obtain ⟨bp, op, _, e1, _, hrg⟩ := rd_range ptC 6 pt_len6 ((rdRow_of_own HO2.out).gr HG.out) (by omega)
      replace e1 := (Value.slice.inj e1).1
      subst e1
      have Hz := Lib.hid (hrg i hlt)
      have Hs := Lib.hid (show putP (sortP (T.take i)) T[i] = sortP (T.take (i + 1)) by rw [List.take_succ_eq_append_getElem hlt, sortP_snoc])
      have hle : ∀ q ∈ sortP (T.take i), leB q T[i] := fun q hq => by
        obtain ⟨j, hj, rfl⟩ := List.getElem_of_mem (sortP_mem hq)
        rw [List.length_take] at hj
        rw [List.getElem_take]
        exact List.pairwise_iff_getElem.1 HTs.out j i (by omega) hlt (by omega)
      have Hle := Lib.hid hle
      obtain ⟨z, ez⟩ : ∃ z, T[i] = z := ⟨_, rfl⟩
      rw [ez] at Hz Hs Hle
      have Hsl := Lib.hid (show (sortP (T.take i)).length ≤ 100000 from Nat.le_trans (sortP_len _) (by rw [List.length_take]; omega))
      have Hst := Lib.hid (sortP_str (T.take i))
      obtain ⟨O', eO'⟩ : ∃ x, sortP (T.take (i + 1)) = x := ⟨_, rfl⟩
      obtain ⟨O, eO⟩ : ∃ x, sortP (T.take i) = x := ⟨_, rfl⟩
      have HO' := Lib.hid eO'
      rw [eO'] at Hs
      rw [eO] at HO Hs Hle Hsl Hst ⊢
      clear eO eO'
      clear hrg ez hle
      go_upto_region 7 with (first | (refine wpList_load_mid rfl 26 (.tmp 16) rfl bp (op + i * 6) rfl (ptC z) _ Hz.out Try.underlying26 rfl info_pt ?_))
      obtain ⟨w3, e3, hg3, b3, s3⟩ := al_out wr (.cells #[.string z.s, .int .i64 z.t, .int .i64 z.v, .int .i64 z.c, .int .i64 z.st, .int .i64 z.q] 26)
      rw [e3]
      obtain ⟨A, eA⟩ : ∃ A, wr.heap.size = A := ⟨_, rfl⟩
      rw [eA] at b3
      (try rw [eA])
      have B3 := Lib.hid b3
      have HO3 := Lib.hid (own_gr HO.out hg3)
      have HG3 := Lib.hid (HG.out.tr hg3)
      have HOA := Lib.hid (show ∀ k, (Value.slice ua O.length uc).ownBlock = some k → k < A from fun k hk => by rw [← eA]; exact (HO.out.lt k hk).2)
      clear e3 hg3 b3 s3 eA HO HG Hz
      rcases (show O = [] ∨ ∃ Q q, O = Q ++ [q] from by
        by_cases h : O = []
        · exact .inl h
        · exact .inr ⟨O.dropLast, O.getLast h, (List.dropLast_concat_getLast _).symm⟩) with hO | ⟨Q, q, hO⟩
      · have HE := Lib.hid (show O' = [z] by rw [← Hs.out, hO]; rfl)
        have hl0 : O.length = 0 := by rw [hO]; rfl
        have HOe := Lib.hid hO
        rw [hl0] at HO3 HOA ⊢
        clear hO hl0
        go_upto_region 8 with (fail)
        refine region_start (S := fun w' => Gr w3 w') (by kernel_rfl) (by exact Gr.dr Gr.rfl') (fun wz hz0 hHeld => ?_)
        simp only [List.size_toArray, List.length_cons, List.length_nil, Nat.reduceAdd]
        refine wpAnyH_take (i := 0) (oi := ?_) (v := ?_) ?_ (by kernel_rfl) (by kernel_rfl) (by kernel_rfl) ?_ ?_ (by assumption) ?_; rotate_left 2; (focus (simp only [List.getElem?_toArray, List.getElem?_cons_zero]; rfl)); (focus (exact fun _ _ _ h => h)); first | (focus (refine Or.inl ⟨by rfl, ?_⟩; intro w hSw; (try dsimp only at hSw); (try dsimp only [Array.getD]); go_simp; (try with_reducible rfl))) | (focus (refine Or.inr ⟨by rfl, ?_⟩; rfl)) | fail "op 0"
        try simp only [Act.put, List.setIfInBounds_toArray, List.set_cons_zero, List.set_cons_succ]
        refine wpAnyH_take (i := 1) (oi := ?_) (v := ?_) ?_ (by kernel_rfl) (by kernel_rfl) (by kernel_rfl) ?_ ?_ (by assumption) ?_; rotate_left 2; (focus (simp only [List.getElem?_toArray, List.getElem?_cons_succ, List.getElem?_cons_zero]; rfl)); (focus (exact fun _ _ _ h => h)); first | (focus (refine Or.inl ⟨by rfl, ?_⟩; intro w hSw; (try dsimp only at hSw); (try dsimp only [Array.getD]); go_simp; (try with_reducible rfl))) | (focus (refine Or.inr ⟨by rfl, ?_⟩; rfl)) | fail "op 1"
        try simp only [Act.put, List.setIfInBounds_toArray, List.set_cons_zero, List.set_cons_succ]
        refine wpAnyH_take (i := 2) (oi := ?_) (v := ?_) ?_ (by kernel_rfl) (by kernel_rfl) (by kernel_rfl) ?_ ?_ (by assumption) ?_; rotate_left 2; (focus (simp only [List.getElem?_toArray, List.getElem?_cons_succ, List.getElem?_cons_zero]; rfl)); (focus (exact fun _ _ _ h => h)); first | (focus (refine Or.inl ⟨by rfl, ?_⟩; intro w hSw; (try dsimp only at hSw); (try dsimp only [Array.getD]); go_simp; (try with_reducible rfl))) | (focus (refine Or.inr ⟨by rfl, ?_⟩; rfl)) | fail "op 2"
        try simp only [Act.put, List.setIfInBounds_toArray, List.set_cons_zero, List.set_cons_succ]
        refine wpAnyH_take (i := 3) (oi := ?_) (v := ?_) ?_ (by kernel_rfl) (by kernel_rfl) (by kernel_rfl) ?_ ?_ (by assumption) ?_; rotate_left 2; (focus (simp only [List.getElem?_toArray, List.getElem?_cons_succ, List.getElem?_cons_zero]; rfl)); (focus (exact fun _ _ _ h => h)); first | (focus (refine Or.inl ⟨by rfl, ?_⟩; intro w hSw; (try dsimp only at hSw); (try dsimp only [Array.getD]); go_simp; (try with_reducible rfl))) | (focus (refine Or.inr ⟨by rfl, ?_⟩; rfl)) | fail "op 3"
        try simp only [Act.put, List.setIfInBounds_toArray, List.set_cons_zero, List.set_cons_succ]
        refine wpAnyH_take (i := 4) (oi := ?_) (v := ?_) ?_ (by kernel_rfl) (by kernel_rfl) (by kernel_rfl) ?_ ?_ (by assumption) ?_; rotate_left 2; (focus (simp only [List.getElem?_toArray, List.getElem?_cons_succ, List.getElem?_cons_zero]; rfl)); (focus (exact fun _ _ _ h => h)); first | (focus (refine Or.inl ⟨by rfl, ?_⟩; intro w hSw; (try dsimp only at hSw); (try dsimp only [Array.getD]); go_simp; (try with_reducible rfl))) | (focus (refine Or.inr ⟨by rfl, ?_⟩; rfl)) | fail "op 4"
        try simp only [Act.put, List.setIfInBounds_toArray, List.set_cons_zero, List.set_cons_succ]
        refine wpAnyH_take (i := 5) (oi := ?_) (v := ?_) ?_ (by kernel_rfl) (by kernel_rfl) (by kernel_rfl) ?_ ?_ (by assumption) ?_; rotate_left 2; (focus (simp only [List.getElem?_toArray, List.getElem?_cons_succ, List.getElem?_cons_zero]; rfl)); (focus (exact fun _ _ _ h => h)); first | (focus (refine Or.inl ⟨by rfl, ?_⟩; intro w hSw; (try dsimp only at hSw); (try dsimp only [Array.getD]); go_simp; (try with_reducible rfl))) | (focus (refine Or.inr ⟨by rfl, ?_⟩; rfl)) | fail "op 5"
        try simp only [Act.put, List.setIfInBounds_toArray, List.set_cons_zero, List.set_cons_succ]
        refine wpAnyH_take (i := 6) (oi := ?_) (v := ?_) ?_ (by kernel_rfl) (by kernel_rfl) (by kernel_rfl) ?_ ?_ (by assumption) ?_; rotate_left 2; (focus (simp only [List.getElem?_toArray, List.getElem?_cons_succ, List.getElem?_cons_zero]; rfl)); (focus (exact fun _ _ _ h => h)); first | (focus (refine Or.inl ⟨by rfl, ?_⟩; intro w hSw; (try dsimp only at hSw); (try dsimp only [Array.getD]); go_simp; (try with_reducible rfl))) | (focus (refine Or.inr ⟨by rfl, ?_⟩; rfl)) | fail "op 6"
        try simp only [Act.put, List.setIfInBounds_toArray, List.set_cons_zero, List.set_cons_succ]
        refine wpAnyH_take (i := 7) (oi := ?_) (v := ?_) ?_ (by kernel_rfl) (by kernel_rfl) (by kernel_rfl) ?_ ?_ (by assumption) ?_; rotate_left 2; (focus (simp only [List.getElem?_toArray, List.getElem?_cons_succ, List.getElem?_cons_zero]; rfl)); (focus (exact fun _ _ _ h => h)); first | (focus (refine Or.inl ⟨by rfl, ?_⟩; intro w hSw; (try dsimp only at hSw); (try dsimp only [Array.getD]); go_simp; (try with_reducible rfl))) | (focus (refine Or.inr ⟨by rfl, ?_⟩; rfl)) | fail "op 7"
        try simp only [Act.put, List.setIfInBounds_toArray, List.set_cons_zero, List.set_cons_succ]
        refine wpAnyH_take (i := 8) (oi := ?_) (v := ?_) ?_ (by kernel_rfl) (by kernel_rfl) (by kernel_rfl) ?_ ?_ (by assumption) ?_; rotate_left 2; (focus (simp only [List.getElem?_toArray, List.getElem?_cons_succ, List.getElem?_cons_zero]; rfl)); (focus (exact fun _ _ _ h => h)); first | (focus (refine Or.inl ⟨by rfl, ?_⟩; intro w hSw; (try dsimp only at hSw); (try dsimp only [Array.getD]); go_simp; (try with_reducible rfl))) | (focus (refine Or.inr ⟨by rfl, ?_⟩; rfl)) | fail "op 8"
        try simp only [Act.put, List.setIfInBounds_toArray, List.set_cons_zero, List.set_cons_succ]
        refine wpAnyH_take (i := 9) (oi := ?_) (v := ?_) ?_ (by kernel_rfl) (by kernel_rfl) (by kernel_rfl) ?_ ?_ (by assumption) ?_; rotate_left 2; (focus (simp only [List.getElem?_toArray, List.getElem?_cons_succ, List.getElem?_cons_zero]; rfl)); (focus (exact fun _ _ _ h => h)); first | (focus (refine Or.inl ⟨by rfl, ?_⟩; intro w hSw; (try dsimp only at hSw); (try dsimp only [Array.getD]); go_simp; (try with_reducible rfl))) | (focus (refine Or.inr ⟨by rfl, ?_⟩; rfl)) | fail "op 9"
        try simp only [Act.put, List.setIfInBounds_toArray, List.set_cons_zero, List.set_cons_succ]
        refine wpAnyH_take (i := 10) (oi := ?_) (v := ?_) ?_ (by kernel_rfl) (by kernel_rfl) (by kernel_rfl) ?_ ?_ (by assumption) ?_; rotate_left 2; (focus (simp only [List.getElem?_toArray, List.getElem?_cons_succ, List.getElem?_cons_zero]; rfl)); (focus (exact fun _ _ _ h => h)); first | (focus (refine Or.inl ⟨by rfl, ?_⟩; intro w hSw; (try dsimp only at hSw); (try dsimp only [Array.getD]); go_simp; (try with_reducible rfl))) | (focus (refine Or.inr ⟨by rfl, ?_⟩; rfl)) | fail "op 10"
        try simp only [Act.put, List.setIfInBounds_toArray, List.set_cons_zero, List.set_cons_succ]
        refine wpAnyH_take (i := 11) (oi := ?_) (v := ?_) ?_ (by kernel_rfl) (by kernel_rfl) (by kernel_rfl) ?_ ?_ (by assumption) ?_; rotate_left 2; (focus (simp only [List.getElem?_toArray, List.getElem?_cons_succ, List.getElem?_cons_zero]; rfl)); (focus (exact fun _ _ _ h => h)); first | (focus (refine Or.inl ⟨by rfl, ?_⟩; intro w hSw; (try dsimp only at hSw); (try dsimp only [Array.getD]); go_simp; (try with_reducible rfl))) | (focus (refine Or.inr ⟨by rfl, ?_⟩; rfl)) | fail "op 11"
        try simp only [Act.put, List.setIfInBounds_toArray, List.set_cons_zero, List.set_cons_succ]
        refine wpAnyH_done (by kernel_rfl) ?_ _
        have G4 := Lib.hid hHeld
        clear hHeld hz0
        obtain ⟨w4, e4⟩ : ∃ w4, wz = w4 := ⟨_, rfl⟩
        rw [e4] at G4 ⊢
        clear e4
        have B4 := Lib.hid (G4.out.blk B3.out)
        have HO4 := Lib.hid (own_gr HO3.out G4.out)
        have HG4 := Lib.hid (HG3.out.tr G4.out)
        rw [HOe.out] at HO4
        go_wp2_with (first | (refine wpList_load_rowg (by rfl) 26 (.tmp 6) rfl A rfl _ (ptC z).toArray (0, 0) _ B4.out Try.underlying26 rfl info_pt ?_) | (at_builtin; refine Hid.out ?_))
        apply Lib.hid
        have hgw : Gr w4 (w4.alloc (.cells (ptC z).toArray 26)) := Gr.al Gr.rfl' _
        refine wpList_snoc ptC 6 56 pt_len6 (by decide) (by decide) pt_one6 rfl (.tmp 32) (.tmp 34) 37 rfl N 26 _ Try.underlying37 infoPt rfl (.slice ua 0 uc) [] rfl (own_gr HO4.out hgw) z w4.heap.size rfl (heap_alloc_new w4 _) (by first | decide | (have := Hsl.out; simp; omega)) (Nat.le_trans (show N ≤ w4.heap.size by have h1 := HG4.out.size; have h2 := EN.out; omega) hgw.size) (fun a7 c7 w7 ho7 hg7 hat7 => ?_)
        have HO7 := Lib.hid (show w7.ownsRow N 26 6 (.slice a7 (0 + 1) c7) O'.length (encP O') by rw [HE.out]; exact ho7)
        have HG7 := Lib.hid (gr_gb (HG4.out.tr hgw) hg7 (fun j hj => by have h1 := (HO4.out.lt j hj).1; have h2 := EN.out; omega))
        clear ho7 hg7 hat7 hgw
        go_wp2_with fail
        go_roundw
        case rel => exact ⟨i + 1, by omega, by go_num, by rw [HO'.out]; exact HO7, HG7⟩
        case measure => simp [intOf]; omega
      · have hOl : O.length = Q.length + 1 := by rw [hO]; simp
        have HOe := Lib.hid hO
        have hq : leB q z := Hle.out q (by rw [hO]; simp)
        have hstr := Hst.out
        rw [hO] at hstr
        have Hpe := Lib.hid (putP_end (p := z) hstr)
        have Hq := Lib.hid hq
        obtain ⟨m, em⟩ : ∃ m, Q.length = m := ⟨_, rfl⟩
        have Hm := Lib.hid em
        rw [em] at hOl
        have hm9 : m ≤ 100000 := by have := Hsl.out; omega
        have Hgq := Lib.hid (show ∀ j u, (ptC q)[j]? = some u → (encP O)[m * 6 + j]? = some u from fun j u hu => by
          have hj : j < 6 := (List.getElem?_eq_some_iff.1 hu).1
          have := flat_get ptC 6 pt_len6 O m (by omega) j hj
          rw [show encP O = O.flatMap ptC from rfl, this, show O[m]'(by omega) = q by simp [hO, ← em]]
          exact hu)
        rw [hOl] at HO3 HOA ⊢
        obtain ⟨go, gc, eg, hgb, hgw⟩ := own_at HO3.out (by omega)
        obtain ⟨eg1, _, eg2⟩ := Value.slice.inj eg
        subst eg1 eg2
        have Hq3 := Lib.hid (show w3.rangeAt go (m * 6) (ptC q) from fun j u hu => by
          have := HO3.out.cells (g := go) rfl _ u (Hgq.out j u hu)
          rwa [Addr.add_mid, Nat.zero_add] at this)
        have Hlast := Lib.hid (show O = Q ++ [q] ++ [] by rw [hO]; simp)
        have h10 : ((m : Int) + 1 == 0) = false := by simp; omega
        have Hwm := Lib.hid (show IntKind.i64.wrap (m : Int) = (m : Int) ∧ (0 : Int) ≤ m ∧ (m : Int) < (m : Int) + 1 from ⟨wrap_id (by unfold I64; omega), by omega, by omega⟩)
        clear hO hOl hq hstr em eg hgb hgw
        rcases leB_cases Hq.out with hbf | hat
        · have HE := Lib.hid (show O' = O ++ [z] by rw [← Hs.out, HOe.out]; exact Hpe.out.1 hbf)
          have Hc := Lib.hid (show cmpB q z = -1 by unfold cmpB; rw [if_pos hbf])
          clear hbf
          go_upto_region 8 with (fail)
          refine region_start (S := fun w' => Gr w3 w') (by kernel_rfl) (by exact Gr.dr Gr.rfl') (fun wz hz0 hHeld => ?_)
          simp only [List.size_toArray, List.length_cons, List.length_nil, Nat.reduceAdd]
          refine wpAnyH_take (i := 0) (oi := ?_) (v := ?_) ?_ (by kernel_rfl) (by kernel_rfl) (by kernel_rfl) ?_ ?_ (by assumption) ?_; rotate_left 2; (focus (simp only [List.getElem?_toArray, List.getElem?_cons_zero]; rfl)); (focus (exact fun _ _ _ h => h)); first | (focus (refine Or.inl ⟨by rfl, ?_⟩; intro w hSw; (try dsimp only at hSw); (try dsimp only [Array.getD]); go_simp; (try with_reducible rfl))) | (focus (refine Or.inr ⟨by rfl, ?_⟩; rfl)) | fail "op 0"
          try simp only [Act.put, List.setIfInBounds_toArray, List.set_cons_zero, List.set_cons_succ]
          refine wpAnyH_take (i := 1) (oi := ?_) (v := ?_) ?_ (by kernel_rfl) (by kernel_rfl) (by kernel_rfl) ?_ ?_ (by assumption) ?_; rotate_left 2; (focus (simp only [List.getElem?_toArray, List.getElem?_cons_succ, List.getElem?_cons_zero]; rfl)); (focus (exact fun _ _ _ h => h)); first | (focus (refine Or.inl ⟨by rfl, ?_⟩; intro w hSw; (try dsimp only at hSw); (try dsimp only [Array.getD]); go_simp; (try with_reducible rfl))) | (focus (refine Or.inr ⟨by rfl, ?_⟩; rfl)) | fail "op 1"
          try simp only [Act.put, List.setIfInBounds_toArray, List.set_cons_zero, List.set_cons_succ]
          refine wpAnyH_take (i := 2) (oi := ?_) (v := ?_) ?_ (by kernel_rfl) (by kernel_rfl) (by kernel_rfl) ?_ ?_ (by assumption) ?_; rotate_left 2; (focus (simp only [List.getElem?_toArray, List.getElem?_cons_succ, List.getElem?_cons_zero]; rfl)); (focus (exact fun _ _ _ h => h)); first | (focus (refine Or.inl ⟨by rfl, ?_⟩; intro w hSw; (try dsimp only at hSw); (try dsimp only [Array.getD]); go_simp; (try with_reducible rfl))) | (focus (refine Or.inr ⟨by rfl, ?_⟩; rfl)) | fail "op 2"
          try simp only [Act.put, List.setIfInBounds_toArray, List.set_cons_zero, List.set_cons_succ]
          refine wpAnyH_take (i := 3) (oi := ?_) (v := ?_) ?_ (by kernel_rfl) (by kernel_rfl) (by kernel_rfl) ?_ ?_ (by assumption) ?_; rotate_left 2; (focus (simp only [List.getElem?_toArray, List.getElem?_cons_succ, List.getElem?_cons_zero]; rfl)); (focus (exact fun _ _ _ h => h)); first | (focus (refine Or.inl ⟨by rfl, ?_⟩; intro w hSw; (try dsimp only at hSw); (try dsimp only [Array.getD]); go_simp; (try with_reducible rfl))) | (focus (refine Or.inr ⟨by rfl, ?_⟩; rfl)) | fail "op 3"
          try simp only [Act.put, List.setIfInBounds_toArray, List.set_cons_zero, List.set_cons_succ]
          refine wpAnyH_take (i := 4) (oi := ?_) (v := ?_) ?_ (by kernel_rfl) (by kernel_rfl) (by kernel_rfl) ?_ ?_ (by assumption) ?_; rotate_left 2; (focus (simp only [List.getElem?_toArray, List.getElem?_cons_succ, List.getElem?_cons_zero]; rfl)); (focus (exact fun _ _ _ h => h)); first | (focus (refine Or.inl ⟨by rfl, ?_⟩; intro w hSw; (try dsimp only at hSw); (try dsimp only [Array.getD]); go_simp; (try with_reducible rfl))) | (focus (refine Or.inr ⟨by rfl, ?_⟩; rfl)) | fail "op 4"
          try simp only [Act.put, List.setIfInBounds_toArray, List.set_cons_zero, List.set_cons_succ]
          refine wpAnyH_take (i := 5) (oi := ?_) (v := ?_) ?_ (by kernel_rfl) (by kernel_rfl) (by kernel_rfl) ?_ ?_ (by assumption) ?_; rotate_left 2; (focus (simp only [List.getElem?_toArray, List.getElem?_cons_succ, List.getElem?_cons_zero]; rfl)); (focus (exact fun _ _ _ h => h)); first | (focus (refine Or.inl ⟨by rfl, ?_⟩; intro w hSw; (try dsimp only at hSw); (try dsimp only [Array.getD]); go_simp; (try with_reducible rfl))) | (focus (refine Or.inr ⟨by rfl, ?_⟩; rfl)) | fail "op 5"
          try simp only [Act.put, List.setIfInBounds_toArray, List.set_cons_zero, List.set_cons_succ]
          refine wpAnyH_take (i := 6) (oi := ?_) (v := ?_) ?_ (by kernel_rfl) (by kernel_rfl) (by kernel_rfl) ?_ ?_ (by assumption) ?_; rotate_left 2; (focus (simp only [List.getElem?_toArray, List.getElem?_cons_succ, List.getElem?_cons_zero]; rfl)); (focus (exact fun _ _ _ h => h)); first | (focus (refine Or.inl ⟨by rfl, ?_⟩; intro w hSw; (try dsimp only at hSw); have wm := Hwm.out.1; have wm2 := Hwm.out.2.1; have wm3 := Hwm.out.2.2; (try dsimp only [Array.getD]); go_simp; (try with_reducible rfl))) | (focus (refine Or.inr ⟨by rfl, ?_⟩; rfl)) | fail "op 6"
          try simp only [Act.put, List.setIfInBounds_toArray, List.set_cons_zero, List.set_cons_succ]
          refine wpAnyH_take (i := 7) (oi := ?_) (v := ?_) ?_ (by kernel_rfl) (by kernel_rfl) (by kernel_rfl) ?_ ?_ (by assumption) ?_; rotate_left 2; (focus (simp only [List.getElem?_toArray, List.getElem?_cons_succ, List.getElem?_cons_zero]; rfl)); (focus (exact fun _ _ _ h => h)); first | (focus (refine Or.inl ⟨by rfl, ?_⟩; intro w hSw; (try dsimp only at hSw); refine (exec_load_mid 26 (.tmp 26) (by rfl) go (m * 6) (by rfl) (ptC q) _ (rangeAt_gr hSw Hq3.out) Try.underlying26 rfl info_pt).trans ?_; with_reducible rfl)) | (focus (refine Or.inr ⟨by rfl, ?_⟩; rfl)) | fail "op 7"
          try simp only [Act.put, List.setIfInBounds_toArray, List.set_cons_zero, List.set_cons_succ]
          refine wpAnyH_take (i := 8) (oi := ?_) (v := ?_) ?_ (by kernel_rfl) (by kernel_rfl) (by kernel_rfl) ?_ ?_ (by assumption) ?_; rotate_left 2; (focus (simp only [List.getElem?_toArray, List.getElem?_cons_succ, List.getElem?_cons_zero]; rfl)); (focus (exact fun _ _ _ h => h)); first | (focus (refine Or.inl ⟨by rfl, ?_⟩; intro w hSw; (try dsimp only at hSw); refine (exec_load_row 26 (.tmp 6) (by rfl) A (by rfl) _ (ptC z).toArray (0, 0) _ (hSw.blk B3.out) Try.underlying26 rfl info_pt).trans ?_; with_reducible rfl)) | (focus (refine Or.inr ⟨by rfl, ?_⟩; rfl)) | fail "op 8"
          try simp only [Act.put, List.setIfInBounds_toArray, List.set_cons_zero, List.set_cons_succ]
          refine wpAnyH_ready (rs := [9]) (by kernel_rfl) (by simp) ?_
          refine AllReadyH.cons (o := ?_) ?_ (fun K hK => ?_) AllReadyH.nil; rotate_left; (focus (simp only [List.getElem?_toArray, List.getElem?_cons_succ, List.getElem?_cons_zero]; rfl))
          go_simp
          go_at_call 61
          refine (place_calls q z _).mono ?_
          rintro e w8 ⟨rfl, hg8⟩
          rw [Hc.out]
          refine hK.out _ _ (hHeld.tr hg8.gr) (fun hHeld => ?_)
          clear hK K
          try simp only [Act.put, List.setIfInBounds_toArray, List.set_cons_zero, List.set_cons_succ]
          refine wpAnyH_take (i := 10) (oi := ?_) (v := ?_) ?_ (by kernel_rfl) (by kernel_rfl) (by kernel_rfl) ?_ ?_ (by assumption) ?_; rotate_left 2; (focus (simp only [List.getElem?_toArray, List.getElem?_cons_succ, List.getElem?_cons_zero]; rfl)); (focus (exact fun _ _ _ h => h)); first | (focus (refine Or.inl ⟨by rfl, ?_⟩; intro w hSw; (try dsimp only at hSw); (try dsimp only [Array.getD]); go_simp; (try with_reducible rfl))) | (focus (refine Or.inr ⟨by rfl, ?_⟩; rfl)) | fail "op 10"
          try simp only [Act.put, List.setIfInBounds_toArray, List.set_cons_zero, List.set_cons_succ]
          refine wpAnyH_take (i := 11) (oi := ?_) (v := ?_) ?_ (by kernel_rfl) (by kernel_rfl) (by kernel_rfl) ?_ ?_ (by assumption) ?_; rotate_left 2; (focus (simp only [List.getElem?_toArray, List.getElem?_cons_succ, List.getElem?_cons_zero]; rfl)); (focus (exact fun _ _ _ h => h)); first | (focus (refine Or.inl ⟨by rfl, ?_⟩; intro w hSw; (try dsimp only at hSw); (try dsimp only [Array.getD]); go_simp; (try with_reducible rfl))) | (focus (refine Or.inr ⟨by rfl, ?_⟩; rfl)) | fail "op 11"
          try simp only [Act.put, List.setIfInBounds_toArray, List.set_cons_zero, List.set_cons_succ]
          refine wpAnyH_done (by kernel_rfl) ?_ _
          have G4 := Lib.hid hHeld
          clear hHeld hz0
          obtain ⟨w4, e4⟩ : ∃ w4, w8 = w4 := ⟨_, rfl⟩
          rw [e4] at G4 ⊢
          clear e4
          have B4 := Lib.hid (G4.out.blk B3.out)
          have HO4 := Lib.hid (own_gr HO3.out G4.out)
          have HG4 := Lib.hid (HG3.out.tr G4.out)
          have HOn := Lib.hid (show m + 1 = O.length by rw [HOe.out]; simp [Hm.out])
          rw [HOn.out] at HO4 ⊢
          go_wp2_with (first | (refine wpList_load_rowg (by rfl) 26 (.tmp 6) rfl A rfl _ (ptC z).toArray (0, 0) _ B4.out Try.underlying26 rfl info_pt ?_) | (at_builtin; refine Hid.out ?_))
          apply Lib.hid
          have hgw : Gr w4 (w4.alloc (.cells (ptC z).toArray 26)) := Gr.al Gr.rfl' _
          refine wpList_snoc ptC 6 56 pt_len6 (by decide) (by decide) pt_one6 rfl (.tmp 32) (.tmp 34) 37 rfl N 26 _ Try.underlying37 infoPt rfl (.slice (some ⟨go, 0, none⟩) O.length uc) O rfl (own_gr HO4.out hgw) z w4.heap.size rfl (heap_alloc_new w4 _) (by first | decide | (have := Hsl.out; simp; omega)) (Nat.le_trans (show N ≤ w4.heap.size by have h1 := HG4.out.size; have h2 := EN.out; omega) hgw.size) (fun a7 c7 w7 ho7 hg7 hat7 => ?_)
          have HO7 := Lib.hid (show w7.ownsRow N 26 6 (.slice a7 (O.length + 1) c7) O'.length (encP O') by rw [HE.out]; exact ho7)
          have HG7 := Lib.hid (gr_gb (HG4.out.tr hgw) hg7 (fun j hj => by have h1 := (HO4.out.lt j hj).1; have h2 := EN.out; omega))
          clear ho7 hg7 hat7 hgw
          go_wp2_with fail
          go_roundw
          case rel => exact ⟨i + 1, by omega, by go_num, by rw [HO'.out]; exact HO7, HG7⟩
          case measure => simp [intOf]; omega
        · have Hc := Lib.hid (show cmpB q z = 0 by
            unfold cmpB
            rw [if_neg (fun x => bef_ne x hat), if_neg (fun x => bef_ne x ⟨hat.1.symm, hat.2.symm⟩)])
          have HE0 := Lib.hid (show O' = Q ++ [bt q z] by rw [← Hs.out, HOe.out]; exact Hpe.out.2 hat)
          have Hbt := Lib.hid (show bt q z = if newT z q then z else q from rfl)
          clear hat
          go_upto_region 8 with (fail)
          refine region_start (S := fun w' => Gr w3 w') (by kernel_rfl) (by exact Gr.dr Gr.rfl') (fun wz hz0 hHeld => ?_)
          simp only [List.size_toArray, List.length_cons, List.length_nil, Nat.reduceAdd]
          refine wpAnyH_take (i := 0) (oi := ?_) (v := ?_) ?_ (by kernel_rfl) (by kernel_rfl) (by kernel_rfl) ?_ ?_ (by assumption) ?_; rotate_left 2; (focus (simp only [List.getElem?_toArray, List.getElem?_cons_zero]; rfl)); (focus (exact fun _ _ _ h => h)); first | (focus (refine Or.inl ⟨by rfl, ?_⟩; intro w hSw; (try dsimp only at hSw); (try dsimp only [Array.getD]); go_simp; (try with_reducible rfl))) | (focus (refine Or.inr ⟨by rfl, ?_⟩; rfl)) | fail "op 0"
          try simp only [Act.put, List.setIfInBounds_toArray, List.set_cons_zero, List.set_cons_succ]
          refine wpAnyH_take (i := 1) (oi := ?_) (v := ?_) ?_ (by kernel_rfl) (by kernel_rfl) (by kernel_rfl) ?_ ?_ (by assumption) ?_; rotate_left 2; (focus (simp only [List.getElem?_toArray, List.getElem?_cons_succ, List.getElem?_cons_zero]; rfl)); (focus (exact fun _ _ _ h => h)); first | (focus (refine Or.inl ⟨by rfl, ?_⟩; intro w hSw; (try dsimp only at hSw); (try dsimp only [Array.getD]); go_simp; (try with_reducible rfl))) | (focus (refine Or.inr ⟨by rfl, ?_⟩; rfl)) | fail "op 1"
          try simp only [Act.put, List.setIfInBounds_toArray, List.set_cons_zero, List.set_cons_succ]
          refine wpAnyH_take (i := 2) (oi := ?_) (v := ?_) ?_ (by kernel_rfl) (by kernel_rfl) (by kernel_rfl) ?_ ?_ (by assumption) ?_; rotate_left 2; (focus (simp only [List.getElem?_toArray, List.getElem?_cons_succ, List.getElem?_cons_zero]; rfl)); (focus (exact fun _ _ _ h => h)); first | (focus (refine Or.inl ⟨by rfl, ?_⟩; intro w hSw; (try dsimp only at hSw); (try dsimp only [Array.getD]); go_simp; (try with_reducible rfl))) | (focus (refine Or.inr ⟨by rfl, ?_⟩; rfl)) | fail "op 2"
          try simp only [Act.put, List.setIfInBounds_toArray, List.set_cons_zero, List.set_cons_succ]
          refine wpAnyH_take (i := 3) (oi := ?_) (v := ?_) ?_ (by kernel_rfl) (by kernel_rfl) (by kernel_rfl) ?_ ?_ (by assumption) ?_; rotate_left 2; (focus (simp only [List.getElem?_toArray, List.getElem?_cons_succ, List.getElem?_cons_zero]; rfl)); (focus (exact fun _ _ _ h => h)); first | (focus (refine Or.inl ⟨by rfl, ?_⟩; intro w hSw; (try dsimp only at hSw); (try dsimp only [Array.getD]); go_simp; (try with_reducible rfl))) | (focus (refine Or.inr ⟨by rfl, ?_⟩; rfl)) | fail "op 3"
          try simp only [Act.put, List.setIfInBounds_toArray, List.set_cons_zero, List.set_cons_succ]
          refine wpAnyH_take (i := 4) (oi := ?_) (v := ?_) ?_ (by kernel_rfl) (by kernel_rfl) (by kernel_rfl) ?_ ?_ (by assumption) ?_; rotate_left 2; (focus (simp only [List.getElem?_toArray, List.getElem?_cons_succ, List.getElem?_cons_zero]; rfl)); (focus (exact fun _ _ _ h => h)); first | (focus (refine Or.inl ⟨by rfl, ?_⟩; intro w hSw; (try dsimp only at hSw); (try dsimp only [Array.getD]); go_simp; (try with_reducible rfl))) | (focus (refine Or.inr ⟨by rfl, ?_⟩; rfl)) | fail "op 4"
          try simp only [Act.put, List.setIfInBounds_toArray, List.set_cons_zero, List.set_cons_succ]
          refine wpAnyH_take (i := 5) (oi := ?_) (v := ?_) ?_ (by kernel_rfl) (by kernel_rfl) (by kernel_rfl) ?_ ?_ (by assumption) ?_; rotate_left 2; (focus (simp only [List.getElem?_toArray, List.getElem?_cons_succ, List.getElem?_cons_zero]; rfl)); (focus (exact fun _ _ _ h => h)); first | (focus (refine Or.inl ⟨by rfl, ?_⟩; intro w hSw; (try dsimp only at hSw); (try dsimp only [Array.getD]); go_simp; (try with_reducible rfl))) | (focus (refine Or.inr ⟨by rfl, ?_⟩; rfl)) | fail "op 5"
          try simp only [Act.put, List.setIfInBounds_toArray, List.set_cons_zero, List.set_cons_succ]
          refine wpAnyH_take (i := 6) (oi := ?_) (v := ?_) ?_ (by kernel_rfl) (by kernel_rfl) (by kernel_rfl) ?_ ?_ (by assumption) ?_; rotate_left 2; (focus (simp only [List.getElem?_toArray, List.getElem?_cons_succ, List.getElem?_cons_zero]; rfl)); (focus (exact fun _ _ _ h => h)); first | (focus (refine Or.inl ⟨by rfl, ?_⟩; intro w hSw; (try dsimp only at hSw); have wm := Hwm.out.1; have wm2 := Hwm.out.2.1; have wm3 := Hwm.out.2.2; (try dsimp only [Array.getD]); go_simp; (try with_reducible rfl))) | (focus (refine Or.inr ⟨by rfl, ?_⟩; rfl)) | fail "op 6"
          try simp only [Act.put, List.setIfInBounds_toArray, List.set_cons_zero, List.set_cons_succ]
          refine wpAnyH_take (i := 7) (oi := ?_) (v := ?_) ?_ (by kernel_rfl) (by kernel_rfl) (by kernel_rfl) ?_ ?_ (by assumption) ?_; rotate_left 2; (focus (simp only [List.getElem?_toArray, List.getElem?_cons_succ, List.getElem?_cons_zero]; rfl)); (focus (exact fun _ _ _ h => h)); first | (focus (refine Or.inl ⟨by rfl, ?_⟩; intro w hSw; (try dsimp only at hSw); refine (exec_load_mid 26 (.tmp 26) (by rfl) go (m * 6) (by rfl) (ptC q) _ (rangeAt_gr hSw Hq3.out) Try.underlying26 rfl info_pt).trans ?_; with_reducible rfl)) | (focus (refine Or.inr ⟨by rfl, ?_⟩; rfl)) | fail "op 7"
          try simp only [Act.put, List.setIfInBounds_toArray, List.set_cons_zero, List.set_cons_succ]
          refine wpAnyH_take (i := 8) (oi := ?_) (v := ?_) ?_ (by kernel_rfl) (by kernel_rfl) (by kernel_rfl) ?_ ?_ (by assumption) ?_; rotate_left 2; (focus (simp only [List.getElem?_toArray, List.getElem?_cons_succ, List.getElem?_cons_zero]; rfl)); (focus (exact fun _ _ _ h => h)); first | (focus (refine Or.inl ⟨by rfl, ?_⟩; intro w hSw; (try dsimp only at hSw); refine (exec_load_row 26 (.tmp 6) (by rfl) A (by rfl) _ (ptC z).toArray (0, 0) _ (hSw.blk B3.out) Try.underlying26 rfl info_pt).trans ?_; with_reducible rfl)) | (focus (refine Or.inr ⟨by rfl, ?_⟩; rfl)) | fail "op 8"
          try simp only [Act.put, List.setIfInBounds_toArray, List.set_cons_zero, List.set_cons_succ]
          refine wpAnyH_ready (rs := [9]) (by kernel_rfl) (by simp) ?_
          refine AllReadyH.cons (o := ?_) ?_ (fun K hK => ?_) AllReadyH.nil; rotate_left; (focus (simp only [List.getElem?_toArray, List.getElem?_cons_succ, List.getElem?_cons_zero]; rfl))
          go_simp
          go_at_call 61
          refine (place_calls q z _).mono ?_
          rintro e w8 ⟨rfl, hg8⟩
          rw [Hc.out]
          refine hK.out _ _ (hHeld.tr hg8.gr) (fun hHeld => ?_)
          clear hK K
          try simp only [Act.put, List.setIfInBounds_toArray, List.set_cons_zero, List.set_cons_succ]
          refine wpAnyH_take (i := 10) (oi := ?_) (v := ?_) ?_ (by kernel_rfl) (by kernel_rfl) (by kernel_rfl) ?_ ?_ (by assumption) ?_; rotate_left 2; (focus (simp only [List.getElem?_toArray, List.getElem?_cons_succ, List.getElem?_cons_zero]; rfl)); (focus (exact fun _ _ _ h => h)); first | (focus (refine Or.inl ⟨by rfl, ?_⟩; intro w hSw; (try dsimp only at hSw); (try dsimp only [Array.getD]); go_simp; (try with_reducible rfl))) | (focus (refine Or.inr ⟨by rfl, ?_⟩; rfl)) | fail "op 10"
          try simp only [Act.put, List.setIfInBounds_toArray, List.set_cons_zero, List.set_cons_succ]
          refine wpAnyH_take (i := 11) (oi := ?_) (v := ?_) ?_ (by kernel_rfl) (by kernel_rfl) (by kernel_rfl) ?_ ?_ (by assumption) ?_; rotate_left 2; (focus (simp only [List.getElem?_toArray, List.getElem?_cons_succ, List.getElem?_cons_zero]; rfl)); (focus (exact fun _ _ _ h => h)); first | (focus (refine Or.inl ⟨by rfl, ?_⟩; intro w hSw; (try dsimp only at hSw); (try dsimp only [Array.getD]); go_simp; (try with_reducible rfl))) | (focus (refine Or.inr ⟨by rfl, ?_⟩; rfl)) | fail "op 11"
          try simp only [Act.put, List.setIfInBounds_toArray, List.set_cons_zero, List.set_cons_succ]
          refine wpAnyH_done (by kernel_rfl) ?_ _
          have G4 := Lib.hid hHeld
          clear hHeld hz0
          obtain ⟨w4, e4⟩ : ∃ w4, w8 = w4 := ⟨_, rfl⟩
          rw [e4] at G4 ⊢
          clear e4
          have B4 := Lib.hid (G4.out.blk B3.out)
          have Hq4 := Lib.hid (rangeAt_gr G4.out Hq3.out)
          have HO4 := Lib.hid (own_gr HO3.out G4.out)
          have HG4 := Lib.hid (HG3.out.tr G4.out)
          clear HO3 HG3 B3 Hq3
          obtain ⟨nb, enb⟩ : ∃ nb, decide (newT z q) = nb := ⟨_, rfl⟩
          have Hnb := Lib.hid enb
          clear enb
          go_upto_region 10 with (fail)
          refine region_start (S := fun w' => Gr w4 w') (by kernel_rfl) (by exact Gr.dr Gr.rfl') (fun wz hz0 hHeld => ?_)
          simp only [List.size_toArray, List.length_cons, List.length_nil, Nat.reduceAdd]
          refine wpAnyH_take (i := 0) (oi := ?_) (v := ?_) ?_ (by kernel_rfl) (by kernel_rfl) (by kernel_rfl) ?_ ?_ (by assumption) ?_; rotate_left 2; (focus (simp only [List.getElem?_toArray, List.getElem?_cons_zero]; rfl)); (focus (exact fun _ _ _ h => h)); first | (focus (refine Or.inl ⟨by rfl, ?_⟩; intro w hSw; (try dsimp only at hSw); refine (exec_load_row 26 (.tmp 6) (by rfl) A (by rfl) _ (ptC z).toArray (0, 0) _ (hSw.blk B4.out) Try.underlying26 rfl info_pt).trans ?_; with_reducible rfl)) | (focus (refine Or.inr ⟨by rfl, ?_⟩; rfl)) | fail "op 0"
          try simp only [Act.put, List.setIfInBounds_toArray, List.set_cons_zero, List.set_cons_succ]
          refine wpAnyH_take (i := 1) (oi := ?_) (v := ?_) ?_ (by kernel_rfl) (by kernel_rfl) (by kernel_rfl) ?_ ?_ (by assumption) ?_; rotate_left 2; (focus (simp only [List.getElem?_toArray, List.getElem?_cons_succ, List.getElem?_cons_zero]; rfl)); (focus (exact fun _ _ _ h => h)); first | (focus (refine Or.inl ⟨by rfl, ?_⟩; intro w hSw; (try dsimp only at hSw); (try dsimp only [Array.getD]); go_simp; (try with_reducible rfl))) | (focus (refine Or.inr ⟨by rfl, ?_⟩; rfl)) | fail "op 1"
          try simp only [Act.put, List.setIfInBounds_toArray, List.set_cons_zero, List.set_cons_succ]
          refine wpAnyH_take (i := 2) (oi := ?_) (v := ?_) ?_ (by kernel_rfl) (by kernel_rfl) (by kernel_rfl) ?_ ?_ (by assumption) ?_; rotate_left 2; (focus (simp only [List.getElem?_toArray, List.getElem?_cons_succ, List.getElem?_cons_zero]; rfl)); (focus (exact fun _ _ _ h => h)); first | (focus (refine Or.inl ⟨by rfl, ?_⟩; intro w hSw; (try dsimp only at hSw); (try dsimp only [Array.getD]); go_simp; (try with_reducible rfl))) | (focus (refine Or.inr ⟨by rfl, ?_⟩; rfl)) | fail "op 2"
          try simp only [Act.put, List.setIfInBounds_toArray, List.set_cons_zero, List.set_cons_succ]
          refine wpAnyH_take (i := 3) (oi := ?_) (v := ?_) ?_ (by kernel_rfl) (by kernel_rfl) (by kernel_rfl) ?_ ?_ (by assumption) ?_; rotate_left 2; (focus (simp only [List.getElem?_toArray, List.getElem?_cons_succ, List.getElem?_cons_zero]; rfl)); (focus (exact fun _ _ _ h => h)); first | (focus (refine Or.inl ⟨by rfl, ?_⟩; intro w hSw; (try dsimp only at hSw); (try dsimp only [Array.getD]); go_simp; (try with_reducible rfl))) | (focus (refine Or.inr ⟨by rfl, ?_⟩; rfl)) | fail "op 3"
          try simp only [Act.put, List.setIfInBounds_toArray, List.set_cons_zero, List.set_cons_succ]
          refine wpAnyH_take (i := 4) (oi := ?_) (v := ?_) ?_ (by kernel_rfl) (by kernel_rfl) (by kernel_rfl) ?_ ?_ (by assumption) ?_; rotate_left 2; (focus (simp only [List.getElem?_toArray, List.getElem?_cons_succ, List.getElem?_cons_zero]; rfl)); (focus (exact fun _ _ _ h => h)); first | (focus (refine Or.inl ⟨by rfl, ?_⟩; intro w hSw; (try dsimp only at hSw); have wm := Hwm.out.1; have wm2 := Hwm.out.2.1; have wm3 := Hwm.out.2.2; (try dsimp only [Array.getD]); go_simp; (try with_reducible rfl))) | (focus (refine Or.inr ⟨by rfl, ?_⟩; rfl)) | fail "op 4"
          try simp only [Act.put, List.setIfInBounds_toArray, List.set_cons_zero, List.set_cons_succ]
          refine wpAnyH_take (i := 5) (oi := ?_) (v := ?_) ?_ (by kernel_rfl) (by kernel_rfl) (by kernel_rfl) ?_ ?_ (by assumption) ?_; rotate_left 2; (focus (simp only [List.getElem?_toArray, List.getElem?_cons_succ, List.getElem?_cons_zero]; rfl)); (focus (exact fun _ _ _ h => h)); first | (focus (refine Or.inl ⟨by rfl, ?_⟩; intro w hSw; (try dsimp only at hSw); refine (exec_load_mid 26 (.tmp 40) (by rfl) go (m * 6) (by rfl) (ptC q) _ (rangeAt_gr hSw Hq4.out) Try.underlying26 rfl info_pt).trans ?_; with_reducible rfl)) | (focus (refine Or.inr ⟨by rfl, ?_⟩; rfl)) | fail "op 5"
          try simp only [Act.put, List.setIfInBounds_toArray, List.set_cons_zero, List.set_cons_succ]
          refine wpAnyH_ready (rs := [6]) (by kernel_rfl) (by simp) ?_
          refine AllReadyH.cons (o := ?_) ?_ (fun K hK => ?_) AllReadyH.nil; rotate_left; (focus (simp only [List.getElem?_toArray, List.getElem?_cons_succ, List.getElem?_cons_zero]; rfl))
          go_simp
          go_at_call 62
          refine (newer_calls z q _).mono ?_
          rintro e w8 ⟨rfl, hg8⟩
          rw [Hnb.out]
          refine hK.out _ _ (hHeld.tr hg8) (fun hHeld => ?_)
          clear hK K
          try simp only [Act.put, List.setIfInBounds_toArray, List.set_cons_zero, List.set_cons_succ]
          refine wpAnyH_done (by kernel_rfl) ?_ _
          have G5 := Lib.hid hHeld
          clear hHeld hz0
          obtain ⟨w5, e5⟩ : ∃ w5, w8 = w5 := ⟨_, rfl⟩
          rw [e5] at G5 ⊢
          clear e5
          have B5 := Lib.hid (G5.out.blk B4.out)
          have HO5 := Lib.hid (own_gr HO4.out G5.out)
          have HG5 := Lib.hid (HG4.out.tr G5.out)
          clear HO4 HG4 B4 Hq4
          cases nb with
          | false =>
            have HE := Lib.hid (show O' = O by rw [HE0.out, Hbt.out, if_neg (of_decide_eq_false Hnb.out), HOe.out])
            have HOn := Lib.hid (show m + 1 = O.length by rw [HOe.out]; simp [Hm.out])
            rw [HOn.out] at HO5 ⊢
            go_wp2_with fail
            go_roundw
            case rel => exact ⟨i + 1, by omega, by go_num, by rw [HO'.out, HE.out]; exact HO5, HG5⟩
            case measure => simp [intOf]; omega
          | true =>
            have HE := Lib.hid (show O' = Q ++ [z] ++ [] by rw [HE0.out, Hbt.out, if_pos (of_decide_eq_true Hnb.out)]; simp)
            have HOn := Lib.hid (show m + 1 = (Q ++ [q] ++ []).length by simp [Hm.out])
            have HO6 := HO5.out
            rw [HOn.out, Hlast.out] at HO6
            have hset := own_setk (enc := fun x : Pt => ptC x) (k := 6) pt_len6 z HO6
            rw [Hm.out] at hset
            have Hset := Lib.hid hset
            have hm6 : w5.there go (m * 6) 6 := hset.2.2
            have Hth := Lib.hid hm6
            have wm := Hwm.out.1
            have wm2 := Hwm.out.2.1
            have wm3 := Hwm.out.2.2
            clear hset HO6 hm6
            go_wp2_with (first | (refine wpList_load_rowg (by rfl) 26 (.tmp 6) rfl A rfl _ (ptC z).toArray (0, 0) _ B5.out Try.underlying26 rfl info_pt ?_) | (refine wpList_store_mid rfl 26 (.tmp 47) (.tmp 46) rfl go (m * 6) (ptC z).toArray rfl rfl Hth.out info_pt (all_oneCell_toArray (pt_one6 z)) ?_; refine Hid.out ?_))
            apply Lib.hid
            have HO7 := Lib.hid (show (w5.setCells go (m * 6) (ptC z)).ownsRow N 26 6 (.slice (some ⟨go, 0, none⟩) (m + 1) uc) O'.length (encP O') by
              rw [HE.out]
              have h1 := Hset.out.1
              have e1 : (Q ++ [z] ++ []).length = m + 1 := by simp [Hm.out]
              rw [e1] at h1 ⊢
              exact h1)
            have HG7 := Lib.hid (gr_gb HG5.out Hset.out.2.1 (fun j hj => by injection hj with hj; have h1 := (HO5.out.lt go rfl).1; have h2 := EN.out; omega))
            show wpList _ _ _ _ _ (w5.setCells go (m * 6) (ptC z))
            generalize w5.setCells go (m * 6) (ptC z) = w7 at HO7 HG7 ⊢
            clear Hset Hth B5 HO5 HG5
            go_wp2_with fail
            go_roundw
            case rel => exact ⟨i + 1, by omega, by go_num, by rw [HO'.out]; exact HO7, HG7⟩
            case measure => simp [intOf]; omega
    · obtain rfl : i = T.length := by omega
      have HO9 := Lib.hid (own_mono HO.out HNw.out)
      rw [HTk.out] at HO9 ⊢
      clear hlt HO
      go_wp2_with fail
      rw [Exit.noGoto_ret]
      go_ret
      exact ⟨_, rfl, HO9.out, HG2.out.tr HG.out⟩
end Go.Proofs.Ytpnpnjfflblkpaa

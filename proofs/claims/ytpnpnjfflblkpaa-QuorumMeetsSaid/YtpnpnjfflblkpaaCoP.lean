/- Lists of points put one behind another (slices.Concat), and merged. -/
import Derived.Test.YtpnpnjfflblkpaaSpC
import Derived.Test.YtpnpnjfflblkpaaDfP
import Derived.Lib.AppendZeros
namespace Go.Proofs.Ytpnpnjfflblkpaa
open Go.RowKit Go.Maps Go.Sort

set_option maxRecDepth 100000 in
theorem growp_calls (n : Nat) (hn : n ≤ 1000000) (w : World) : Calls Try.prog 81 #[.slice none 0 0, .int .i64 n] w fun e w' => ∃ v, e = .returned v ∧ w'.ownsRow w.heap.size 26 6 v 0 [] ∧ Gr w w' := by
  rcases Nat.eq_zero_or_pos n with h0 | h0
  · subst h0
    go_enter Try.func81, Try.ntmps81
    go_wp2_with fail
    go_ret
    exact ⟨_, rfl, World.ownsRow_nil _ _ _ _, Gr.rfl'⟩
  · obtain ⟨i0, hi, hz0, hz1, hz2⟩ := info_parts infoPt
    have h1 : ¬ (n : Int) < 0 := by omega
    have h2 : (0 : Int) < n := by omega
    have hw : IntKind.i64.wrap ((n : Int) - 0) = n := wrap_id (by unfold I64; omega)
    have hr := fun ty => Lib.run_append_nil_zeros (P := Try.prog) w 37 3 ty 26 i0 _ .i64 .i64 Try.underlying37 Try.underlying3 hi hz0 n h0 (by rw [hz1]; decide) (by omega) (by rw [hz2]; omega)
    have Hown := Lib.hid (show ∀ c, c = grownCap w n 0 26 → (w.drew.alloc (.cells (Builtin.zeroCells (Value.agg #[.string ⟨#[]⟩, .int .i64 0, .int .i64 0, .int .i64 0, .int .i64 0, .int .i64 0]).cells n ++ Builtin.zeroCells (Value.agg #[.string ⟨#[]⟩, .int .i64 0, .int .i64 0, .int .i64 0, .int .i64 0, .int .i64 0]).cells (c - n)) 26)).ownsRow w.heap.size 26 6 (.slice (some ⟨w.heap.size, 0, none⟩) 0 c) 0 [] from fun c hc => by
      have hge : n ≤ c := by rw [hc]; exact grownCap_ge w n 0 _
      refine ⟨rfl, .inr ⟨w.heap.size, c, _, rfl, Nat.le_refl _, heap_alloc_new w.drew _, Nat.zero_le _, by rw [hc]; exact grownCap_le_maxLen w n 0 _ (by unfold maxLen; omega), ?_, rfl⟩⟩
      simp only [Array.size_append, size_zeroCells]
      show n * 6 + (c - n) * 6 = c * 6
      omega)
    have hgc : n ≤ grownCap w n 0 26 := grownCap_ge w n 0 _
    have Hrun := Lib.hid hr
    obtain ⟨c, hc⟩ : ∃ c, c = grownCap w n 0 26 := ⟨_, rfl⟩
    rw [← hc] at Hrun hgc
    have HO := Lib.hid (Hown.out c hc)
    clear hr hc Hown h0
    go_enter Try.func81, Try.ntmps81
    go_wp2_with (at_builtin; refine Lib.wpList_append_run _ rfl _ _ _ _ rfl _ _ rfl rfl _ _ (Hrun.out _) ?_; refine Hid.out ?_)
    apply Lib.hid
    have HG := Lib.hid (show Gr w _ from (Gr.dr (Gr.rfl' (w := w))).al (.cells (Builtin.zeroCells (Value.agg #[.string ⟨#[]⟩, .int .i64 0, .int .i64 0, .int .i64 0, .int .i64 0, .int .i64 0]).cells n ++ Builtin.zeroCells (Value.agg #[.string ⟨#[]⟩, .int .i64 0, .int .i64 0, .int .i64 0, .int .i64 0, .int .i64 0]).cells (c - n)) 26))
    clear Hrun
    go_wp2_with fail
    go_ret
    exact ⟨_, rfl, HO.out, HG.out⟩
/-- Lists of points, as a list of slices is read. -/
structure LsAt (w : World) (v : Value) (vs : List Value) (ls : List (List Pt)) : Prop where
  row : rdRow w 1 v vs.length vs
  len : vs.length = ls.length
  each : ∀ i (h : i < vs.length) (h' : i < ls.length), rdRow w 6 vs[i] ls[i].length (encP ls[i])
theorem LsAt.gr {w w' : World} {v : Value} {vs : List Value} {ls : List (List Pt)} (h : LsAt w v vs ls) (hg : Gr w w') : LsAt w' v vs ls := ⟨h.row.gr hg, h.len, fun i a b => (h.each i a b).gr hg⟩
def sumL (ls : List (List Pt)) : Nat := ls.flatten.length
theorem sumL_take {ls : List (List Pt)} {i : Nat} (h : i < ls.length) : sumL (ls.take (i + 1)) = sumL (ls.take i) + ls[i].length ∧ (ls.take (i + 1)).flatten = (ls.take i).flatten ++ ls[i] := by
  unfold sumL
  rw [List.take_succ_eq_append_getElem h, List.flatten_append]
  simp
theorem sumL_le {ls : List (List Pt)} (i : Nat) : sumL (ls.take i) ≤ sumL ls := by
  unfold sumL
  conv => rhs; rw [← List.take_append_drop i ls, List.flatten_append, List.length_append]
  omega
set_option maxRecDepth 100000 in
set_option maxHeartbeats 4000000 in
theorem concatp_calls (v : Value) (vs : List Value) (ls : List (List Pt)) (w : World) (h : LsAt w v vs ls) (hs : sumL ls ≤ 100000) (hl : ls.length ≤ 100000) :
    Calls Try.prog 63 #[v] w fun e w' => ∃ v', e = .returned v' ∧ w'.ownsRow w.heap.size 26 6 v' ls.flatten.length (encP ls.flatten) ∧ Gr w w' := by
  obtain ⟨a, c, rfl⟩ : ∃ a c, v = .slice a vs.length c := by obtain ⟨_, a, c, e, _⟩ := h.row; exact ⟨a, c, e⟩
  have H := Lib.hid h
  have Hlen := Lib.hid h.len
  obtain ⟨n, en⟩ : ∃ n, vs.length = n := ⟨_, rfl⟩
  have En := Lib.hid en
  have hn : n ≤ 100000 := by have := h.len; omega
  have Hc := Lib.hid (fun (W : World) (hg : Gr w W) (i : Nat) (hi : i < n) => (show ∃ b o, a = some ⟨b, o, none⟩ ∧ W.cell? ⟨b, o + i, none⟩ = some (vs.getD i undef) from by
    obtain ⟨_, a', c', e1, _, h2⟩ := h.row.gr hg
    obtain ⟨b, o, ea, h3⟩ := h2 (by omega)
    have e2 := (Value.slice.inj e1).1
    refine ⟨b, o, by rw [e2, ea], h3 i _ ?_⟩
    have : i < vs.length := by omega
    simp [List.getD, this]))
  have He := Lib.hid (fun (W : World) (hg : Gr w W) (i : Nat) (hi : i < n) => (show ∃ (hi' : i < ls.length), rdRow W 6 (vs.getD i undef) ls[i].length (encP ls[i]) from by
    have h1 : i < vs.length := by omega
    have h2 : i < ls.length := by have := h.len; omega
    refine ⟨h2, ?_⟩
    have := (h.gr hg).each i h1 h2
    simpa [List.getD, h1] using this))
  have Hs := Lib.hid hs
  have HT := Lib.hid (fun i => @sumL_take ls i)
  have Hle := Lib.hid (fun i => @sumL_le ls i)
  have Hfin := Lib.hid (show ls.take n = ls by rw [← en, h.len, List.take_length])
  have H0 := Lib.hid (show sumL (ls.take 0) = 0 ∧ (ls.take 0).flatten = [] from ⟨rfl, rfl⟩)
  rw [en]
  clear h hs hl en H Hlen En
  go_enter Try.func63, Try.ntmps63
  go_wp2_with fail
  go_loop [3, 11] (fun sv iv => ∃ i : Nat, i ≤ n ∧ iv = .int .i64 i ∧ sv = .int .i64 (sumL (ls.take i) : Nat)) (fun _ iv => n - (intOf iv).toNat)
  case atStart => exact ⟨0, Nat.zero_le _, rfl, by rw [H0.out.1]; rfl⟩
  case round =>
    obtain ⟨i, hi, rfl, rfl⟩ := hrel
    by_cases hlt : i < n
    · have hlt' : (i : Int) < n := by omega
      obtain ⟨b, o, rfl, hc⟩ := Hc.out w Gr.rfl' i hlt
      obtain ⟨hi', hr⟩ := He.out w Gr.rfl' i hlt
      obtain ⟨ua, uc, eu⟩ : ∃ a c, vs.getD i undef = .slice a ls[i].length c := by obtain ⟨_, a, c, e, _⟩ := hr; exact ⟨a, c, e⟩
      have ht := (HT.out i hi').1
      have hle := Hle.out (i + 1)
      have hs := Hs.out
      obtain ⟨s0, es⟩ : ∃ s, sumL (ls.take i) = s := ⟨_, rfl⟩
      obtain ⟨m, em⟩ : ∃ m, ls[i].length = m := ⟨_, rfl⟩
      have hb1 : s0 + m ≤ 100000 := by omega
      rw [es, em] at ht
      have Ht := Lib.hid ht
      rw [eu, em] at hc
      rw [es]
      clear hr eu ht hle hs es em
      go_wp2_with fail
      go_round
      case rel => exact ⟨i + 1, by omega, by go_num, by rw [Ht.out]; go_num⟩
      case measure => simp [intOf]; omega
    · obtain rfl : i = n := by omega
      clear hlt
      rw [Hfin.out]
      have hs := Hs.out
      obtain ⟨t, et⟩ : ∃ t, sumL ls = t := ⟨_, rfl⟩
      rw [et] at hs ⊢
      have hs2 : t ≤ 1000000 := by omega
      clear et
      go_wp2_with fail
      refine (growp_calls t hs2 _).mono ?_
      rintro e w1 ⟨v1, rfl, ho1, hg1⟩
      have HO1 := Lib.hid ho1
      have HG1 := Lib.hid hg1
      clear ho1 hg1
      go_wp2_with fail
      go_loopw [6, 27] (fun ov jv wr => ∃ j : Nat, j ≤ i ∧ jv = .int .i64 j ∧ Hid (wr.ownsRow w.heap.size 26 6 ov (ls.take j).flatten.length (encP (ls.take j).flatten)) ∧ Hid (Gr w wr)) (fun _ jv _ => i - (intOf jv).toNat)
      case atStart => exact ⟨0, Nat.zero_le _, rfl, Lib.hid (by rw [H0.out.2]; exact HO1.out), HG1⟩
      case round =>
        obtain ⟨j, hj, rfl, HO, HG⟩ := hrel
        obtain ⟨oa, oc, rfl⟩ := own_slice HO.out
        clear HO1 HG1
        by_cases hlt : j < i
        · have hlt' : (j : Int) < i := by omega
          obtain ⟨b, o, rfl, hc⟩ := Hc.out wr HG.out j hlt
          obtain ⟨hj', hr⟩ := He.out wr HG.out j hlt
          have HF := Lib.hid (HT.out j hj').2
          have Hr := Lib.hid hr
          have hl1 := (HT.out j hj').1
          have hl2 := Hle.out (j + 1)
          unfold sumL at hl1 hl2
          have hs9 := Hs.out
          unfold sumL at hs9
          have Hl1 := Lib.hid (show (ls.take j).flatten.length ≤ 1000000 ∧ ls[j].length ≤ 1000000 by omega)
          obtain ⟨O, eO⟩ : ∃ O, (ls.take j).flatten = O := ⟨_, rfl⟩
          obtain ⟨O', eO'⟩ : ∃ O', (ls.take (j + 1)).flatten = O' := ⟨_, rfl⟩
          have HO' := Lib.hid eO'
          rw [eO'] at HF
          rw [eO] at HF HO Hl1 ⊢
          obtain ⟨Lj, eL⟩ : ∃ L, ls[j] = L := ⟨_, rfl⟩
          rw [eL] at HF Hr Hl1
          obtain ⟨xv, ex⟩ : ∃ x, vs.getD j undef = x := ⟨_, rfl⟩
          rw [ex] at hc Hr
          clear hr hl1 hl2 hs9 eO eO' eL ex
          go_wp2_with (at_builtin; refine Hid.out ?_)
          apply Lib.hid
          refine wpList_join ptC 6 56 pt_len6 (by decide) (by decide) pt_one6 rfl (.tmp 31) (.tmp 32) 37 rfl w.heap.size 26 _ Try.underlying37 infoPt rfl (.slice oa O.length oc) O rfl HO.out Lj xv rfl Hr.out Hl1.out.1 Hl1.out.2 HG.out.size (fun a6 c6 w6 ho6 hg6 hat6 => ?_)
          rw [← HF.out] at ho6 ⊢
          have HO6 := Lib.hid ho6
          have HG6 := Lib.hid (gr_gb HG.out hg6 (fun k hk => (HO.out.lt k hk).1))
          clear ho6 hg6 hat6 hc
          go_wp2_with fail
          go_roundw
          case rel => exact ⟨j + 1, by omega, by go_num, by rw [HO'.out]; exact HO6, HG6⟩
          case measure => simp [intOf]; omega
        · obtain rfl : j = i := by omega
          rw [Hfin.out] at HO ⊢
          clear hlt
          go_wp2_with fail
          go_ret
          exact ⟨_, rfl, HO.out, HG.out⟩
theorem merge_calls (v : Value) (vs : List Value) (ls : List (List Pt)) (w : World) (h : LsAt w v vs ls) (hs : sumL ls ≤ 100000) (hl : ls.length ≤ 100000) :
    Calls Try.prog 47 #[v] w fun e w' => ∃ v', e = .returned v' ∧ w'.ownsRow w.heap.size 26 6 v' (sortP ls.flatten).length (encP (sortP ls.flatten)) ∧ Gr w w' := by
  have H := Lib.hid (concatp_calls v vs ls w h hs hl)
  have hs' : ls.flatten.length ≤ 100000 := hs
  have Hs := Lib.hid hs'
  clear h hs hl hs'
  go_enter Try.func47, Try.ntmps47
  go_wp2_with fail
  refine H.out.mono ?_
  rintro e w1 ⟨v1, rfl, ho, hg⟩
  have HO := Lib.hid ho
  have HG := Lib.hid hg
  clear ho hg
  go_wp2_with fail
  refine (bsort_calls v1 _ _ (rdRow_of_own HO.out) Hs.out).mono ?_
  rintro e w2 ⟨v2, rfl, ho, hg⟩
  have HO2 := Lib.hid (own_mono ho HG.out.size)
  have HG2 := Lib.hid (HG.out.tr hg)
  clear ho hg
  go_wp2_with fail
  go_ret
  exact ⟨_, rfl, HO2.out, HG2.out⟩
end Go.Proofs.Ytpnpnjfflblkpaa

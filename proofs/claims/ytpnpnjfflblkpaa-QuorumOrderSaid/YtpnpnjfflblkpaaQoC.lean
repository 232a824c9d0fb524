/- The law QuorumOrder. -/
import Derived.Test.YtpnpnjfflblkpaaQoB
namespace Go.Proofs.Ytpnpnjfflblkpaa
open Go.RowKit Go.Maps Go.Sort Go.Shelf

set_option maxRecDepth 100000 in
set_option maxHeartbeats 16000000 in
theorem order_law (v2 : Value) (ops : List RepR) (w : World) (hv2 : rdRow w 2 v2 ops.length (ops.flatMap repC)) (hops : ∀ o ∈ ops, RepOk w o) (hl2 : ops.length ≤ maxLen) :
    Calls Try.prog 4 #[v2] w fun e w' => e = .returned (.bool true) ∧ Gr w w' := by
  obtain ⟨aa, ac, rfl⟩ : ∃ a c, v2 = .slice a ops.length c := by obtain ⟨_, a, c, e, _⟩ := hv2; exact ⟨a, c, e⟩
  have HV2 := Lib.hid hv2; have HOp := Lib.hid hops
  unfold maxLen at hl2
  clear hv2 hops
  go_enter Try.func4, Try.ntmps4
  go_wp2_with fail
  refine (awake_calls _).mono ?_
  rintro e w1 ⟨rfl, hg1⟩
  have G1 := Lib.hid hg1
  clear hg1
  go_wp2_with fail
  refine (newread_calls 1 _ N8 _ (rdI_lit w1 N8 3) (by decide)).mono ?_
  rintro e w2 ⟨p, nv, b, g, rfl, ha, hp, hb, hgg, hg⟩
  rw [nodes8] at ha
  have hga : Gr w1 (w1.alloc (.cells (N8.map (Value.int .i64)).toArray 3)) := Gr.al Gr.rfl' _
  have H2 := Lib.hid (show OneR w w2 p b g 1 N8 [] (fun _ => []) from ⟨nv, _, ha, (G1.out.tr hga).tr hg, Nat.le_trans (G1.out.tr hga).size hb, Nat.le_trans (G1.out.tr hga).size hgg⟩)
  have HL2 := Lib.hid (show b < w2.heap.size ∧ g < w2.heap.size from ⟨ha.wr.map.lt b rfl, ha.gt.got.lt g rfl⟩)
  clear ha hp hb hgg hg hga
  go_wp2_with fail
  refine (newread_calls 1 _ N8r _ (rdI_lit w2 N8r 3) (by decide)).mono ?_
  rintro e w3 ⟨p2, nv2, b2, g2, rfl, ha, hp, hb, hgg, hg⟩
  rw [nodes8r] at ha
  have hga : Gr w2 (w2.alloc (.cells (N8r.map (Value.int .i64)).toArray 3)) := Gr.al Gr.rfl' _
  have HT := Lib.hid (show TwoR w w3 p b g p2 b2 g2 [] [] (fun _ => []) (fun _ => []) from by
    have h0 := H2.out.grw
    have h1 := HL2.out
    have h2 := hga.size
    exact ⟨H2.out.gr (hga.tr hg), ⟨nv2, _, ha, (h0.tr hga).tr hg, Nat.le_trans (h0.tr hga).size hb, Nat.le_trans (h0.tr hga).size hgg⟩, by omega, by omega, by omega, by omega⟩)
  clear ha hp hb hgg hg hga G1 H2 HL2
  have hn : ∃ n : Nat, n ≤ 8 ∧ n ≤ ops.length ∧ ((¬ 8 < ops.length ∧ n = ops.length) ∨ (8 < ops.length ∧ n = 8)) := by
    by_cases h : 8 < ops.length
    · exact ⟨8, by omega, by omega, .inr ⟨h, rfl⟩⟩
    · exact ⟨ops.length, by omega, by omega, .inl ⟨h, rfl⟩⟩
  obtain ⟨n, hn8, hnl, hcs⟩ := hn
  have Hcs := Lib.hid hcs
  have hcase : (¬ (8 : Int) < ops.length) ∨ (8 : Int) < ops.length := by omega
  clear hcs
  rcases hcase with hx | hx
  all_goals
    have hq := Hcs.out
    have E6 := Lib.hid (show (¬ (8 : Int) < ops.length → ((ops.length : Nat) : Int) = (n : Int)) ∧ ((8 : Int) < ops.length → (8 : Int) = (n : Int)) from ⟨fun _ => by omega, fun _ => by omega⟩)
    have Hx := Lib.hid hx
    clear hq Hcs
    go_upto_region 9 with fail
    (first | rw [E6.out.1 Hx.out] | rw [E6.out.2 Hx.out])
    clear E6 Hx hx
    go_wp2_with fail
    obtain ⟨w4, e4, g4, b4, s4⟩ := al_out w3 (.cells #[.slice none 0 0, .slice none 0 0, .slice none 0 0, .slice none 0 0, .slice none 0 0, .slice none 0 0, .slice none 0 0, .slice none 0 0] 38)
    rw [e4]
    obtain ⟨A, eA⟩ : ∃ A, w3.heap.size = A := ⟨_, rfl⟩
    rw [eA] at b4 ⊢
    have HG0 := Lib.hid (show GotAt w4 A _ _ from got_new b4 (fun m hm => by
      have : m = 0 ∨ m = 1 ∨ m = 2 ∨ m = 3 ∨ m = 4 ∨ m = 5 ∨ m = 6 ∨ m = 7 := by omega
      rcases this with rfl | rfl | rfl | rfl | rfl | rfl | rfl | rfl <;> rfl))
    have G4 := Lib.hid g4
    have EA := Lib.hid eA
    have GW := Lib.hid HT.out.ra.grw
    clear e4 g4 b4 s4 eA
    go_loopw [8] (fun iv wr => ∃ (i : Nat) (f : Nat → Value) (G : Nat → List Pt), i ≤ n ∧ iv = .int .i64 i ∧ Hid (GotAt wr A f G) ∧ Hid (StG G i) ∧ Hid (Gr w3 wr)) (fun iv _ => n - (intOf iv).toNat)
    case atStart => exact ⟨0, _, _, Nat.zero_le _, rfl, HG0, Lib.hid StG.zero, G4⟩
    case round =>
      obtain ⟨i, f, G, hi, rfl, HGt, HSt, HG⟩ := hrel
      clear HG0 G4
      by_cases hlt : i < n
      · have hlt' : (i : Int) < n := by omega
        have hlo' : (i : Int) < ops.length := by omega
        have hlo : i < ops.length := by omega
        obtain ⟨ba, oa, _, e1, _, hrg⟩ := rd_range repC 2 (fun _ => rfl) HV2.out (by omega)
        replace e1 := (Value.slice.inj e1).1
        subst e1
        have hok := HOp.out _ (List.getElem_mem hlo)
        have hr := hrg i hlo
        obtain ⟨o, eo⟩ : ∃ o, ops[i] = o := ⟨_, rfl⟩
        rw [eo] at hok hr
        obtain ⟨on, ov, lo⟩ := o
        obtain ⟨hI, hrow, hlo2⟩ := hok
        simp only at hI hrow hlo2
        obtain ⟨oa1, oc1, eov⟩ : ∃ a c, ov = .slice a lo.length c := by obtain ⟨_, a, c, e, _⟩ := hrow; exact ⟨a, c, e⟩
        subst eov
        have k1 : _ = some (Value.slice oa1 lo.length oc1) := keepc (GW.out.tr HG.out) (hr 1 _ rfl)
        have Hlo := Lib.hid hlo2
        have Hrow := Lib.hid (hrow.gr (GW.out.tr HG.out))
        clear hrg eo hr hI hrow hlo2
        go_wp2_with fail
        refine (points_calls (.slice oa1 lo.length oc1) lo _ Hrow.out Hlo.out).mono ?_
        rintro e w5 ⟨vp, rfl, hop, hgp⟩
        have hL10 := ten_len lo
        obtain ⟨L, eL⟩ : ∃ L, tenP lo = L := ⟨_, rfl⟩
        rw [eL] at hL10 hop
        obtain ⟨la, lc, hlv⟩ := own_slice hop
        subst hlv
        obtain ⟨wo, ewo⟩ : ∃ wo : World, wo = wr := ⟨_, rfl⟩
        subst ewo
        have HO0 := Lib.hid hop
        have HG50 := Lib.hid hgp
        have HAw := Lib.hid (show A < wo.heap.size from World.block_lt_of_cell? _ _ (HGt.out.arr 0 (by decide)).1)
        obtain ⟨R, eR⟩ : ∃ R, wo.heap.size = R := ⟨_, rfl⟩
        rw [eR] at HO0 HAw
        have ER := Lib.hid eR
        clear hop hgp eL k1 eR
        go_wp2_with fail
        go_loopw [10] (fun kv wr => ∃ k : Nat, k ≤ L.length ∧ kv = .int .i64 k ∧ Hid (wr.ownsRow R 26 6 (.slice la L.length lc) L.length (encP (stL i L k))) ∧ Hid (Gr wo wr)) (fun kv _ => L.length - (intOf kv).toNat)
        case atStart => exact ⟨0, Nat.zero_le _, rfl, by rw [stL_zero]; exact HO0, HG50⟩
        case round =>
          obtain ⟨k, hk, rfl, HO, HG5⟩ := hrel
          clear HO0 HG50
          by_cases hkl : k < L.length
          · have hkl' : (k : Int) < L.length := by omega
            obtain ⟨gb, egb⟩ := own_some HO.out (by omega)
            subst egb
            obtain ⟨ho, hgr, ⟨u, hc⟩, hf, hb⟩ := own_cell1 (j := k * 6 + 5) (.int .i64 (10 * (i : Int) + k)) HO.out (by omega)
            rw [st_cells i L k hkl] at ho
            have HOn := Lib.hid ho
            have HGn := Lib.hid (gr_gb HG5.out hgr (fun j hj => by injection hj with hj; rw [ER.out, ← hj]; exact hb))
            clear ho hgr hb
            go_wp2_with fail
            go_roundw
            case rel => exact ⟨k + 1, by omega, by go_num, HOn, HGn⟩
            case measure => simp [intOf]; omega
          · obtain rfl : k = L.length := by omega
            have HRO := Lib.hid (rdO_own HO.out HAw.out)
            have HGt5 := Lib.hid (HGt.out.gr HG5.out)
            have HP := Lib.hid (HGt5.out.put (m := i) (by omega) (L := stL i L L.length) (v := .slice la L.length lc) (by rw [stL_len]; exact HRO.out))
            have HSt2 := Lib.hid (HSt.out.put hL10)
            have hbs := bt_set wr A i (.slice la L.length lc)
            have HGw := Lib.hid (hbs.gr (HG.out.tr HG5.out) (fun k e => by rw [e, ← EA.out]; exact Nat.le_refl _))
            have ca := (HGt5.out.arr i (by omega)).1
            have fa := (HGt5.out.arr i (by omega)).2
            clear hbs hkl hk
            go_wp2_with fail
            go_roundw
            case rel => exact ⟨i + 1, _, _, by omega, by go_num, HP, HSt2, HGw⟩
            case measure => simp [intOf]; omega
      · obtain rfl : n = i := by omega
        have HT4 := Lib.hid (show TwoR w wr p b g p2 b2 g2 (upA 0) (dnA n 0) (glO G (upA 0)) (glO G (dnA n 0)) from by
          rw [show upA 0 = [] from rfl, show dnA n 0 = [] from rfl, glO_nil]
          exact HT.out.grow HG.out)
        clear hlt hi HG HT GW EA
        go_wp2_with fail
        go_loopw [11] (fun iv wr => ∃ i : Nat, i ≤ n ∧ iv = .int .i64 i ∧ Hid (GotAt wr A f G) ∧ Hid (TwoR w wr p b g p2 b2 g2 (upA i) (dnA n i) (glO G (upA i)) (glO G (dnA n i)))) (fun iv _ => n - (intOf iv).toNat)
        case atStart => exact ⟨0, Nat.zero_le _, rfl, HGt, HT4⟩
        case round =>
          obtain ⟨i, hi, rfl, HGt, HT⟩ := hrel
          clear HT4
          by_cases hlt : i < n
          · have hlt' : (i : Int) < n := by omega
            obtain ⟨m, em⟩ : ∃ m, m = n - 1 - i := ⟨_, rfl⟩
            have Em := Lib.hid em
            have hm8 : m < 8 := by omega
            have ei : (n : Int) - 1 - i = (m : Int) := by omega
            have Ei := Lib.hid ei
            clear em ei
            have ca := (HGt.out.arr i (by omega)).1
            go_wp2_with fail
            refine (HT.out.up HGt.out (i := i) (by omega) (HSt.out.len i)).mono ?_
            rintro e w6 ⟨rfl, hT6, hG6⟩
            replace HT := Lib.hid hT6
            replace HGt := Lib.hid hG6
            clear hT6 hG6 ca
            have ca := (HGt.out.arr m hm8).1
            have em2 : n - 1 - i = m := Em.out.symm
            go_wp2_with fail
            refine (HT.out.dn HGt.out hn8 hlt Em.out (HSt.out.len m)).mono ?_
            rintro e w7 ⟨rfl, hT7, hG7⟩
            replace HT := Lib.hid hT7
            replace HGt := Lib.hid hG7
            clear hT7 hG7 ca em2 Em Ei hm8
            go_wp2_with fail
            go_roundw
            case rel => exact ⟨i + 1, by omega, by go_num, HGt, HT⟩
            case measure => simp [intOf]; omega
          · obtain rfl : n = i := by omega
            clear hlt hi
            rw [glO_same] at HT
            have Hla := Lib.hid (glO_len HSt.out (upA n))
            have Hwh := Lib.hid (fun i (hi : i < n) => order_whole HSt.out hn8 hi)
            have Hrl := Lib.hid (fun x => rep_len10 Hla.out x)
            have Hfl := Lib.hid (Nat.le_trans (flat_len10 Hla.out N8) (show 10 * N8.length ≤ 80 by decide))
            obtain ⟨la, ela⟩ : ∃ la, glO G (upA n) = la := ⟨_, rfl⟩
            rw [ela] at HT Hla Hwh Hrl Hfl
            have hMl := sortP_len ((N8.map la).flatten)
            obtain ⟨M, eM⟩ : ∃ M, sortP ((N8.map la).flatten) = M := ⟨_, rfl⟩
            rw [eM] at hMl
            have HM := Lib.hid eM
            have HMl := Lib.hid (show M.length ≤ 80 from Nat.le_trans hMl Hfl.out)
            clear ela eM hMl
            have Hdone := Lib.hid (fun W (h : OneR w W p b g 1 N8 (upA n) la) => h.done)
            go_wp2_with fail
            refine (HT.out.ra.merged Hla.out).mono ?_
            rintro e w8 ⟨v8, rfl, ho8, hg8⟩
            rw [HM.out] at ho8
            have R8 := Lib.hid (rdRow_of_own ho8)
            replace HT := Lib.hid (HT.out.grow hg8)
            replace HGt := Lib.hid (HGt.out.gr hg8)
            clear ho8 hg8
            go_wp2_with fail
            refine (HT.out.rb.merged Hla.out).mono ?_
            rintro e w9 ⟨v9, rfl, ho9, hg9⟩
            rw [HM.out] at ho9
            have R9 := Lib.hid (rdRow_of_own ho9)
            replace R8 := Lib.hid (R8.out.gr hg9)
            replace HT := Lib.hid (HT.out.grow hg9)
            replace HGt := Lib.hid (HGt.out.gr hg9)
            clear ho9 hg9
            go_wp2_with fail
            refine (samep_calls v8 v9 M M _ R8.out R9.out (by have := HMl.out; omega)).mono ?_
            rintro e w10 ⟨rfl, hg10⟩
            rw [decide_eq_true (rfl : M = M)]
            replace R8 := Lib.hid (R8.out.gr hg10)
            replace HT := Lib.hid (HT.out.grow hg10)
            replace HGt := Lib.hid (HGt.out.gr hg10)
            clear hg10 R9
            go_wp2_with fail
            go_loopw [14] (fun iv wr => ∃ i : Nat, i ≤ n ∧ iv = .int .i64 i ∧ Hid (Gr w10 wr)) (fun iv _ => n - (intOf iv).toNat)
            case atStart => exact ⟨0, Nat.zero_le _, rfl, Lib.hid Gr.rfl'⟩
            case round =>
              obtain ⟨i, hi, rfl, HG⟩ := hrel
              by_cases hlt : i < n
              · have hlt' : (i : Int) < n := by omega
                have hi8 : i < 8 := by omega
                have HGi := Lib.hid (HGt.out.gr HG.out)
                have ca := (HGi.out.arr i hi8).1
                have hgl := HSt.out.len i
                have hrp := Hrl.out (i : Int)
                go_wp2_with (at_builtin; refine Hid.out ?_)
                apply Lib.hid
                refine wpList_join ptC 6 56 pt_len6 (by decide) (by decide) pt_one6 rfl (.tmp 99) (.tmp 102) 37 rfl wr.heap.size 26 _ Try.underlying37 infoPt rfl (.slice none 0 0) [] rfl (World.ownsRow_nil _ _ _ _) (G i) (f i) rfl (HGi.out.row i hi8).1 (by decide) (by omega) (Nat.le_refl _) (fun a6 c6 w6 ho6 hg6 hat6 => ?_)
                rw [List.nil_append] at ho6 ⊢
                have HO6 := Lib.hid ho6
                have G6 := Lib.hid (gr_gb Gr.rfl' hg6 (fun j hj => by cases hj))
                clear ho6 hg6 hat6 ca
                go_wp2_with fail
                refine ((HT.out.grow (HG.out.tr G6.out)).ra.repair Hla.out (i : Int) (by unfold I64; omega)).mono ?_
                rintro e w7 ⟨v7, rfl, ho7, hg7⟩
                have R7 := Lib.hid (rdRow_of_own ho7)
                replace HO6 := Lib.hid (own_gr HO6.out hg7)
                have G7 := Lib.hid (G6.out.tr hg7)
                clear ho7 hg7 G6
                go_wp2_with (at_builtin; refine Hid.out ?_)
                apply Lib.hid
                refine wpList_join ptC 6 56 pt_len6 (by decide) (by decide) pt_one6 rfl (.tmp 104) (.tmp 107) 37 rfl wr.heap.size 26 _ Try.underlying37 infoPt rfl (.slice a6 (G i).length c6) (G i) rfl HO6.out (repL N8 la i) v7 rfl R7.out (by omega) (by omega) G7.out.size (fun a8 c8 w11 ho8 hg8 hat8 => ?_)
                have hal : (G i ++ repL N8 la i).length ≤ 100 := by rw [List.length_append]; omega
                have HZ := Hwh.out i hlt
                rw [HM.out] at HZ
                obtain ⟨Z, eZ⟩ : ∃ Z, G i ++ repL N8 la i = Z := ⟨_, rfl⟩
                rw [eZ] at ho8 hal HZ ⊢
                have RA := Lib.hid (rdRow_of_own ho8)
                have G8 := Lib.hid (gr_gb G7.out hg8 (fun j hj => (HO6.out.lt j hj).1))
                have HZ2 := Lib.hid HZ
                clear ho8 hg8 hat8 HO6 R7 G7 eZ HZ
                go_wp2_with fail
                refine (rsort_calls _ Z _ RA.out (by omega)).mono ?_
                rintro e w12 ⟨v12, rfl, ho12, hg12⟩
                rw [HZ2.out] at ho12
                have R12 := Lib.hid (rdRow_of_own ho12)
                have G12 := Lib.hid (G8.out.tr hg12)
                clear ho12 hg12 RA G8
                go_wp2_with fail
                refine (samep_calls v12 v8 M M _ R12.out (R8.out.gr (HG.out.tr G12.out)) (by have := HMl.out; omega)).mono ?_
                rintro e w13 ⟨rfl, hg13⟩
                rw [decide_eq_true (rfl : M = M)]
                have HGn := Lib.hid ((HG.out.tr G12.out).tr hg13)
                clear hg13 R12 G12
                go_wp2_with fail
                go_roundw
                case rel => exact ⟨i + 1, by omega, by go_num, HGn⟩
                case measure => simp [intOf]; omega
              · obtain rfl : n = i := by omega
                clear hlt hi
                have HT2 := Lib.hid (HT.out.grow HG.out)
                have hd : decide (0 < (upA n).length) = decide (0 < n) := by rw [up_len]
                have hd2 : decide ((0 : Int) < (n : Int)) = decide (0 < n) := decide_eq_decide.2 (by omega)
                have Hd := Lib.hid hd
                have Hd2 := Lib.hid hd2
                clear hd hd2
                go_wp2_with fail
                refine (Hdone.out _ HT2.out.ra).mono ?_
                rintro e w14 ⟨rfl, hg14⟩
                rw [Hd.out]
                have HG14 := Lib.hid (HT2.out.ra.grw.tr hg14)
                obtain ⟨t, et⟩ : ∃ t, decide (0 < n) = t := ⟨_, rfl⟩
                rw [et] at Hd2 ⊢
                have Et := Lib.hid et
                clear hg14 et Hd
                go_wp2_with fail
                go_ret
                refine ⟨?_, HG14.out⟩
                first
                | rfl
                | (simp; exact Et.out.symm)
                | (simp; exact Et.out)
end Go.Proofs.Ytpnpnjfflblkpaa

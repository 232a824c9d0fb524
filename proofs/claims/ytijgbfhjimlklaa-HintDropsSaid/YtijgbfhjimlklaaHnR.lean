/- HintDrops: the walk. -/
import Derived.Test.YtijgbfhjimlklaaHnQ
import Derived.Deep.CutBlock
namespace Go.Proofs.Ytijgbfhjimlklaa
open Go.RowKit Go.Maps

set_option maxRecDepth 100000 in
set_option maxHeartbeats 16000000 in
theorem drops_law (v0 : Value) (ps : List Pt) (v1 : Value) (ns0 : List Int) (t : Int) (w : World) (h0 : rdRow w 6 v0 ps.length (encP ps)) (hpi : ∀ p ∈ ps, PtI p) (hpl : ps.length ≤ maxLen) (h1 : rdRow w 1 v1 ns0.length (encI ns0)) (hnl : ns0.length ≤ maxLen) :
    Calls Try.prog 5 #[v0, v1, .int .i64 t] w fun e w' => e = .returned (.bool true) ∧ Gr w w' := by
  obtain ⟨a0, c0, rfl⟩ : ∃ a c, v0 = .slice a ps.length c := by obtain ⟨_, a, c, e, _⟩ := h0; exact ⟨a, c, e⟩
  obtain ⟨a1, c1, rfl, hc1⟩ : ∃ a c, v1 = .slice a ns0.length c ∧ ns0.length ≤ c := by obtain ⟨_, a, c, e, hc, _⟩ := h1; exact ⟨a, c, e, hc⟩
  have H0 := Lib.hid h0; have HPI := Lib.hid hpi
  have h12 : (ns0.take 12).length ≤ 12 := by rw [List.length_take]; omega
  have Hn := Lib.hid (show rdRow w 1 (.slice a1 (ns0.take 12).length c1) (ns0.take 12).length (encI (ns0.take 12)) by
    have := rd_take h1 (m := (ns0.take 12).length) (by rw [List.length_take]; omega)
    rwa [show ns0.take (ns0.take 12).length = ns0.take 12 by rw [List.length_take]; exact List.take_eq_take_min.symm] at this)
  have Hcut := Lib.hid (show (ns0.length ≤ 12 → (ns0.take 12).length = ns0.length) ∧ (¬ ns0.length ≤ 12 → (ns0.take 12).length = 12) from ⟨fun h => by rw [List.length_take]; omega, fun h => by rw [List.length_take]; omega⟩)
  obtain ⟨ns, ens⟩ : ∃ ns, ns0.take 12 = ns := ⟨_, rfl⟩
  rw [ens] at h12 Hn Hcut
  unfold maxLen at hpl hnl
  clear h0 hpi h1 ens
  go_enter Try.func5, Try.ntmps5
  go_wp2_with fail
  refine (awake_calls _).mono ?_
  rintro e w1 ⟨rfl, hg1⟩
  have G1 := Lib.hid hg1
  clear hg1
  go_wp2_with fail
  refine (hnew_calls 600 _).mono ?_
  rintro e w2 ⟨p, b, rfl, ha, hp, hb, hg⟩
  rw [show mostH 600 = 600 by decide] at ha
  have hs1 := G1.out.size
  have H2 := Lib.hid (show OneH w w2 p b 600 (KL ns []) from ⟨ha, G1.out.tr hg, by omega, by omega⟩)
  clear ha hp hb hg hs1 G1
  go_upto_if 24 with (fail)
  go_cut [1] (fun v wx => v = .slice a1 ns.length c1 ∧ w2 = wx)
  case first =>
    by_cases hl : ns0.length ≤ 12
    · have hl' : ¬ (12 : Int) < ns0.length := by omega
      have e1 := Hcut.out.1 hl
      go_wp2_with fail
      go_meet
      exact ⟨by rw [e1], rfl⟩
    · have hl' : (12 : Int) < ns0.length := by omega
      have e1 := Hcut.out.2 hl
      have hc12 : 12 ≤ c1 := by omega
      go_wp2_with fail
      go_meet
      exact ⟨by rw [e1], rfl⟩
  case rest =>
    obtain ⟨rfl, rfl⟩ := hcut
    clear hc1 Hcut hnl
    go_upto_block 0 with (fail)
    go_cut [1] (fun v wx => v = .slice a1 ns.length c1 ∧ ∃ K : List Pt, K.length ≤ 20 ∧ Kept K ∧ Hid (OneH w wx p b 600 (KL ns K)))
    case first =>
      go_wp2_with fail
      go_loopw [9] (fun iv wr => ∃ (i : Nat) (K : List Pt), i ≤ ps.length ∧ i ≤ 20 ∧ iv = .int .i64 i ∧ K.length ≤ i ∧ Hid (Kept K) ∧ Hid (OneH w wr p b 600 (KL ns K))) (fun iv _ => ps.length - (intOf iv).toNat)
      case atStart => exact ⟨0, [], Nat.zero_le _, Nat.zero_le _, rfl, Nat.le_refl _, Lib.hid .nil, H2⟩
      case round =>
        obtain ⟨i, K, hi1, hi2, rfl, hKi, HK, HR⟩ := hrel
        clear H2
        by_cases hlt : i < ps.length ∧ i < 20
        · obtain ⟨hl1, hl2⟩ := hlt
          have hl1' : (i : Int) < ps.length := by omega
          have hl2' : (i : Int) < 20 := by omega
          obtain ⟨bg, og, _, e1, _, hrg⟩ := rd_range ptC 6 (fun _ => rfl) (H0.out.gr HR.out.gr) (by omega)
          replace e1 := (Value.slice.inj e1).1
          subst e1
          have Hrg := Lib.hid (hrg i hl1)
          have Hyi := Lib.hid (HPI.out _ (List.getElem_mem hl1))
          obtain ⟨y, ey⟩ : ∃ y, ps[i] = y := ⟨_, rfl⟩
          rw [ey] at Hrg Hyi
          clear hrg ey
          go_wp2_with (first | (refine wpList_load_mid rfl 31 (.tmp 40) rfl bg (og + i * 6) rfl (ptC y) _ Hrg.out Try.underlying31 rfl info_pt ?_))
          refine (small_calls y _).mono ?_
          rintro e w4 ⟨rfl, hg4⟩
          have HR4 := Lib.hid (HR.out.grow hg4)
          have Hxw := Lib.hid (smallP_w Hyi.out)
          generalize smallP y = x at *
          have Hns := Lib.hid (Hn.out.gr HR4.out.gr)
          clear hg4 HR Hrg Hyi
          go_wp2_with fail
          refine (HR4.out.addK (by omega) x Hxw.out.2.2.1 _ Hns.out (by omega)).mono ?_
          rintro e w5 ⟨rfl, ho, hb5⟩
          have HR5 := Lib.hid ho
          have HK5 := Lib.hid (HK.out.add Hxw.out)
          have hal := addK_len K x
          generalize addK K x = K' at *
          generalize decide (PtOk x) = dk at *
          clear ho HR4 Hns hb5
          go_wp2_with fail
          go_roundw
          case rel => exact ⟨i + 1, K', by omega, by omega, by go_num, by omega, HK5, HR5⟩
          case measure => simp [intOf]; omega
        · have hex : (¬ (i : Int) < ps.length) ∨ ((i : Int) < ps.length ∧ ¬ (i : Int) < 20) := by omega
          clear hlt
          have hK20 : K.length ≤ 20 := by omega
          rcases hex with hex | ⟨hex, hex2⟩
          all_goals
            go_wp2_with fail
            go_meet
            exact ⟨rfl, K, hK20, HK.out, HR⟩
    case rest =>
      obtain ⟨rfl, K, hK20, hKp, HR⟩ := hcut
      clear H2
      go_wp2_with fail
      refine (rnodes_calls _ ns _ (Hn.out.gr HR.out.gr) (by omega)).mono ?_
      rintro e w3 ⟨v9, rfl, ho9, hg3⟩
      obtain ⟨a9, c9, rfl⟩ := own_slice ho9
      have HO3 := Lib.hid (HR.out.grow hg3)
      have Hown9 := Lib.hid ho9
      have Hs3 := Lib.hid hg3.size
      have HbR := Lib.hid (show p < wc.heap.size ∧ b < wc.heap.size from ⟨blk_lt HR.out.at_.blk, HR.out.at_.map.lt b rfl⟩)
      have Hws := Lib.hid HR.out.gr.size
      clear ho9 hg3 HR
      go_upto_region 13 with (fail)
      obtain ⟨w4, e4, hg4, b4, s4⟩ := al_out w3 (.cells #[.slice none 0 0, .slice none 0 0, .slice none 0 0, .slice none 0 0, .slice none 0 0, .slice none 0 0, .slice none 0 0, .slice none 0 0, .slice none 0 0, .slice none 0 0, .slice none 0 0, .slice none 0 0, .slice none 0 0, .slice none 0 0, .slice none 0 0, .slice none 0 0] 44)
      rw [e4]
      obtain ⟨A, eA⟩ : ∃ A, w3.heap.size = A := ⟨_, rfl⟩
      obtain ⟨N0, eN⟩ : ∃ N, w4.heap.size = N := ⟨_, rfl⟩
      rw [eA] at b4 s4 ⊢
      have hAN : A < N0 := by omega
      have HH4 := Lib.hid (had_new (A := A) (N := N0) b4 (fun m hm => by
        match m, hm with
        | 0, _ | 1, _ | 2, _ | 3, _ | 4, _ | 5, _ | 6, _ | 7, _ | 8, _ | 9, _ | 10, _ | 11, _ | 12, _ | 13, _ | 14, _ | 15, _ => rfl
        | z + 16, hz => exact absurd hz (by omega)) hAN (by omega))
      have HD4 := Lib.hid (show Dp w w4 p b ns (KL ns K) (.slice a9 (nodesOf ns).length c9) A from
        ⟨HO3.out.grow hg4, (rdRow_of_own Hown9.out).gr hg4, by have := HbR.out; have := Hs3.out; omega, by have := HbR.out; have := Hs3.out; omega, fun a n c e => by
          have e1 := (Value.slice.inj e).1
          subst e1
          rcases Hown9.out.2 with ⟨h2, _⟩ | ⟨g, cap, cur, h2, hb, hg, _⟩
          · cases h2
          · have := (Value.slice.inj h2).1
            injection this with this
            subst this
            have h3 := blk_lt hg
            have := HbR.out.2
            refine ⟨?_, fun z => ?_⟩
            · show g < A
              omega
            · have h4 : g = b := z
              omega, by have := Hs3.out; have := Hws.out; omega⟩)
      clear HO3 Hown9 Hs3 HbR e4 hg4 b4 s4 eA eN Hws Hn
      have HS1 := Lib.hid (show ∀ n ∈ nodesOf ns, forL (KL ns K) n 600 = srtH K from fun n hn => KL_for hKp (by omega) hn)
      have HS2 := Lib.hid (show ∀ n ∈ nodesOf ns, forL (KL ns (cutK K t)) n 600 = cutK (srtH K) t from fun n hn => by
        rw [KL_for (hKp.cut t) (Nat.le_trans (List.length_filter_le _ _) (by omega)) hn, srtH_cut])
      have HS3 := Lib.hid (drop_gone ns K t)
      have HS4 := Lib.hid (drop_again ns K t)
      have HS5 := Lib.hid (show dropL (KL ns K) t = KL ns (cutK K t) ∧ dropL (KL ns (cutK K t)) t = KL ns (cutK K t) from ⟨KL_drop ns t K, by rw [KL_drop, cut_cut]⟩)
      have hSl : (srtH K).length ≤ 20 := by rw [srtH_len]; exact hK20
      have Hle := Lib.hid (show ∀ K : List Pt, K.length ≤ 20 → (KL ns K).length ≤ 600 from fun K hK => by rw [KL_len]; exact Nat.le_trans (Nat.mul_le_mul hK (nodesOf_len ns)) (by decide))
      have HL := Lib.hid (Hle.out K hK20)
      have HL2 := Lib.hid (Hle.out (cutK K t) (Nat.le_trans (List.length_filter_le _ _) hK20))
      clear Hle
      generalize srtH K = S at *
      have hnl := nodesOf_len ns
      have HAn := Lib.hid (nodesOf_nodup ns)
      have HNat := Lib.hid (fun i (hi : i < (nodesOf ns).length) => nodesOf_nat hi)
      have HMem := Lib.hid (fun i (hi : i < (nodesOf ns).length) => List.getElem_mem hi)
      go_wp2_with fail
      go_loopw [12, 13] (fun gv iv wr => ∃ (i x : Nat) (f : Nat → Value), i ≤ (nodesOf ns).length ∧ iv = .int .i64 i ∧ gv = .int .i64 x ∧ Hid (x = i * lowN S t) ∧ x ≤ i * 20 ∧ Hid (Dp w wr p b ns (KL ns K) (.slice a9 (nodesOf ns).length c9) A) ∧ Hid (Had wr A N0 (hadG (nodesOf ns) (cutK S t) i) f)) (fun _ iv _ => (nodesOf ns).length - (intOf iv).toNat)
      case atStart => exact ⟨0, 0, _, Nat.zero_le _, rfl, rfl, Lib.hid (by rw [Nat.zero_mul]), Nat.zero_le _, HD4, Lib.hid (HH4.out.congr (fun m _ => by unfold hadG; simp))⟩
      case round =>
        obtain ⟨i, x, f, hi, rfl, rfl, HX, hx20, HD, HH⟩ := hrel
        clear HD4 HH4
        by_cases hlt : i < (nodesOf ns).length
        · have hlt' : (i : Int) < (nodesOf ns).length := by omega
          obtain ⟨_, _, e0, _, hx⟩ := rd_at HD.out.all
          obtain ⟨b9, o9, ea9, hz9⟩ := hx (by omega)
          have e09 := (Value.slice.inj e0).1
          rw [ea9] at e09
          subst e09
          clear ea9 hx e0 hz9
          have Hcell := Lib.hid (fun (W : World) (h : Dp w W p b ns (KL ns K) (.slice (some ⟨b9, o9, none⟩) (nodesOf ns).length c9) A) => h.cell hlt)
          obtain ⟨n, en, hn16⟩ := HNat.out i hlt
          have Hf := Lib.hid (HS1.out _ (HMem.out i hlt))
          have Hat := Lib.hid (hadG_at HAn.out (S := cutK S t) hlt en)
          rw [en] at Hcell Hf
          clear en
          have c1r : wr.cell? ⟨b9, o9 + i, none⟩ = some (.int .i64 (n : Int)) := Hcell.out _ HD.out
          have hn16' : (n : Int) < 16 := by omega
          go_wp2_with fail
          refine (for_calls _ p b 600 _ HD.out.one.at_ HL.out n 600).mono ?_
          rintro e w5 ⟨vm, rfl, hrm, hfr, hg5⟩
          rw [Hf.out] at hrm
          obtain ⟨am, cm, rfl⟩ : ∃ a c, vm = .slice a S.length c := by obtain ⟨_, a, c, e, _⟩ := hrm; exact ⟨a, c, e⟩
          have HD5 := Lib.hid (HD.out.grow hg5)
          have HH5 := Lib.hid (HH.out.gr hg5)
          have HM5 := Lib.hid hrm
          have HF5 := Lib.hid (show ∀ a n c, Value.slice am S.length cm = .slice (some a) n c → (∀ j, j < 16 → (f j).ownBlock ≠ some a.block) ∧ a.block ≠ A from fun a n c e => by
            have h1 := hfr a n c e
            refine ⟨fun j hj z => ?_, fun z => ?_⟩
            · have := ((HH.out.row j hj).lt _ z).2; omega
            · have h2 := World.block_lt_of_cell? _ _ (HH.out.arr 0 (by decide)).1
              have h3 : A < wr.heap.size := h2
              omega)
          clear hrm hfr hg5 HD HH c1r
          obtain ⟨wo, rfl⟩ : ∃ wo : World, wo = wr := ⟨_, rfl⟩
          go_wp2_with fail
          go_loopw [12, 15] (fun gv kv wr => ∃ (k y : Nat) (f : Nat → Value), k ≤ S.length ∧ kv = .int .i64 k ∧ gv = .int .i64 y ∧ Hid (y = x + lowN (S.take k) t) ∧ y ≤ x + k ∧ Hid (Dp w wr p b ns (KL ns K) (.slice (some ⟨b9, o9, none⟩) (nodesOf ns).length c9) A) ∧ Hid (Had wr A N0 (fun m => if m = n then cutK (S.take k) t else hadG (nodesOf ns) (cutK S t) i m) f)
            ∧ Hid (rdRow wr 6 (.slice am S.length cm) S.length (encP S)) ∧ Hid (∀ a n c, Value.slice am S.length cm = .slice (some a) n c → (∀ j, j < 16 → (f j).ownBlock ≠ some a.block) ∧ a.block ≠ A)) (fun _ kv _ => S.length - (intOf kv).toNat)
          case atStart => exact ⟨0, x, f, Nat.zero_le _, rfl, rfl, Lib.hid rfl, Nat.le_refl _, HD5, Lib.hid (HH5.out.congr (fun m _ => by
            by_cases e : m = n
            · rw [if_pos e, e, Hat.out.1]; rfl
            · rw [if_neg e])), HM5, HF5⟩
          case round =>
            obtain ⟨k, y, f, hk, rfl, rfl, HY, hyk, HD, HH, HM, HF⟩ := hrel
            clear HD5 HH5 HM5 HF5
            by_cases hkl : k < S.length
            · have hkl' : (k : Int) < S.length := by omega
              obtain ⟨bl, ol, _, e1, _, hrg⟩ := rd_range ptC 6 (fun _ => rfl) HM.out (by omega)
              replace e1 := (Value.slice.inj e1).1
              subst e1
              have Hq := Lib.hid (hrg k hkl)
              have Hlow := Lib.hid (low_succ hkl t)
              obtain ⟨q, eq⟩ : ∃ q, S[k] = q := ⟨_, rfl⟩
              rw [eq] at Hq Hlow
              have cq : wr.cell? ⟨bl, ol + k * 6 + 1, none⟩ = some (.int .i64 q.t) := Hq.out 1 _ rfl
              clear hrg eq
              by_cases hqt : q.t < t
              · have hqt' : ¬ t ≤ q.t := by omega
                have hwy : IntKind.i64.wrap ((y : Int) + 1) = (y : Int) + 1 := wrap_id (by unfold I64; omega)
                obtain ⟨l1, l2⟩ := Hlow.out.1 hqt
                have L1 := Lib.hid l1; have L2 := Lib.hid l2
                clear l1 l2
                go_wp2_with fail
                go_roundw
                case rel => exact ⟨k + 1, y + 1, f, by omega, by go_num, by go_num, Lib.hid (by rw [L1.out, HY.out]; omega), by omega, HD, by rw [L2.out]; exact HH, HM, HF⟩
                case measure => simp [intOf]; omega
              · have hqt' : t ≤ q.t := by omega
                obtain ⟨l1, l2⟩ := Hlow.out.2 hqt
                have L1 := Lib.hid l1; have L2 := Lib.hid l2
                clear l1 l2
                have hown := HH.out.row n hn16
                simp only [if_true] at hown
                have hfa := (HH.out.arr n hn16).1
                have hfz := (HH.out.arr n hn16).2
                obtain ⟨fa, fc, efn⟩ := own_slice hown
                have Hx1 := Lib.hid (show ∀ k, (f n).ownBlock = some k → N0 ≤ k from fun k hk => (hown.lt k hk).1)
                have Hxm := Lib.hid (show ¬ (f n).ownBlock = some bl from (HF.out _ _ _ rfl).1 n hn16)
                have hxA : ¬ (f n).ownBlock = some A := fun z => by have := Hx1.out A z; omega
                have hx9 : ¬ (f n).ownBlock = some b9 := fun z => by have := Hx1.out b9 z; have h9 : b9 < A := (HD.out.v9b _ _ _ rfl).1; omega
                have HxA := Lib.hid hxA; have Hx9 := Lib.hid hx9
                have Hc9 := Lib.hid (Hcell.out _ HD.out)
                rw [efn] at hown hfa HxA Hx9 Hxm
                have Hown := Lib.hid hown; have Hfa := Lib.hid hfa; have Efn := Lib.hid efn; have Hfz := Lib.hid hfz
                have hcl : (cutK (S.take k) t).length ≤ 20 := Nat.le_trans (List.length_filter_le _ _) (by rw [List.length_take]; omega)
                obtain ⟨R, eR⟩ : ∃ R, cutK (S.take k) t = R := ⟨_, rfl⟩
                have HER := Lib.hid eR
                rw [eR] at Hown Hfa hcl HxA Hx9 Hxm Efn
                clear hown hfa hfz efn hxA hx9 eR
                go_upto_region 22 with (fail)
                refine region_startJ (S := fun w' => Bt (fun k => (Value.slice fa R.length fc).ownBlock = some k) wr w') 17 (by kernel_rfl) (by exact Bt.of (Gr.dr Gr.rfl')) (fun wz hz0 hHeld => ?_)
                simp only [List.size_toArray, List.length_cons, List.length_nil, Nat.reduceAdd]
                refine wpAnyJ_take (i := 0) (oi := ?_) (v := ?_) ?_ (by kernel_rfl) ?_ ?_ (by assumption) ?_; rotate_left 2; (focus (simp only [List.getElem?_toArray, List.getElem?_cons_zero]; rfl)); (focus (exact fun _ _ _ h => h)); first | (focus (refine Or.inl ⟨by rfl, ?_⟩; intro w hSw; (try dsimp only at hSw); (try dsimp only [Array.getD]); go_simp; (try with_reducible rfl))) | (focus (refine Or.inr ⟨by rfl, ?_⟩; rfl)) | fail "op 0"
                try simp only [Act.put, List.setIfInBounds_toArray, List.set_cons_zero, List.set_cons_succ]
                refine wpAnyJ_take (i := 1) (oi := ?_) (v := ?_) ?_ (by kernel_rfl) ?_ ?_ (by assumption) ?_; rotate_left 2; (focus (simp only [List.getElem?_toArray, List.getElem?_cons_succ, List.getElem?_cons_zero]; rfl)); (focus (exact fun _ _ _ h => h)); first | (focus (refine Or.inl ⟨by rfl, ?_⟩; intro w hSw; (try dsimp only at hSw); (try dsimp only [Array.getD]); go_simp; (try with_reducible rfl))) | (focus (refine Or.inr ⟨by rfl, ?_⟩; rfl)) | fail "op 1"
                try simp only [Act.put, List.setIfInBounds_toArray, List.set_cons_zero, List.set_cons_succ]
                refine wpAnyJ_take (i := 2) (oi := ?_) (v := ?_) ?_ (by kernel_rfl) ?_ ?_ (by assumption) ?_; rotate_left 2; (focus (simp only [List.getElem?_toArray, List.getElem?_cons_succ, List.getElem?_cons_zero]; rfl)); (focus (exact fun _ _ _ h => h)); first | (focus (refine Or.inl ⟨by rfl, ?_⟩; intro w hSw; (try dsimp only at hSw); (try dsimp only [Array.getD]); go_simp; (try with_reducible rfl))) | (focus (refine Or.inr ⟨by rfl, ?_⟩; rfl)) | fail "op 2"
                try simp only [Act.put, List.setIfInBounds_toArray, List.set_cons_zero, List.set_cons_succ]
                refine wpAnyJ_take (i := 3) (oi := ?_) (v := ?_) ?_ (by kernel_rfl) ?_ ?_ (by assumption) ?_; rotate_left 2; (focus (simp only [List.getElem?_toArray, List.getElem?_cons_succ, List.getElem?_cons_zero]; rfl)); (focus (exact fun _ _ _ h => h)); first | (focus (refine Or.inl ⟨by rfl, ?_⟩; intro w hSw; (try dsimp only at hSw); have c3 := hSw.cell (p := ⟨b9, o9 + i, none⟩) Hx9.out Hc9.out; (try dsimp only [Array.getD]); go_simp; (try with_reducible rfl))) | (focus (refine Or.inr ⟨by rfl, ?_⟩; rfl)) | fail "op 3"
                try simp only [Act.put, List.setIfInBounds_toArray, List.set_cons_zero, List.set_cons_succ]
                refine wpAnyJ_take (i := 4) (oi := ?_) (v := ?_) ?_ (by kernel_rfl) ?_ ?_ (by assumption) ?_; rotate_left 2; (focus (simp only [List.getElem?_toArray, List.getElem?_cons_succ, List.getElem?_cons_zero]; rfl)); (focus (exact fun _ _ _ h => h)); first | (focus (refine Or.inl ⟨by rfl, ?_⟩; intro w hSw; (try dsimp only at hSw); (try dsimp only [Array.getD]); go_simp; (try with_reducible rfl))) | (focus (refine Or.inr ⟨by rfl, ?_⟩; rfl)) | fail "op 4"
                try simp only [Act.put, List.setIfInBounds_toArray, List.set_cons_zero, List.set_cons_succ]
                refine wpAnyJ_take (i := 5) (oi := ?_) (v := ?_) ?_ (by kernel_rfl) ?_ ?_ (by assumption) ?_; rotate_left 2; (focus (simp only [List.getElem?_toArray, List.getElem?_cons_succ, List.getElem?_cons_zero]; rfl)); (focus (exact fun _ _ _ h => h)); first | (focus (refine Or.inl ⟨by rfl, ?_⟩; intro w hSw; (try dsimp only at hSw); (try dsimp only [Array.getD]); go_simp; (try with_reducible rfl))) | (focus (refine Or.inr ⟨by rfl, ?_⟩; rfl)) | fail "op 5"
                try simp only [Act.put, List.setIfInBounds_toArray, List.set_cons_zero, List.set_cons_succ]
                refine wpAnyJ_take (i := 6) (oi := ?_) (v := ?_) ?_ (by kernel_rfl) ?_ ?_ (by assumption) ?_; rotate_left 2; (focus (simp only [List.getElem?_toArray, List.getElem?_cons_succ, List.getElem?_cons_zero]; rfl)); (focus (exact fun _ _ _ h => h)); first | (focus (refine Or.inl ⟨by rfl, ?_⟩; intro w hSw; (try dsimp only at hSw); (try dsimp only [Array.getD]); go_simp; (try with_reducible rfl))) | (focus (refine Or.inr ⟨by rfl, ?_⟩; rfl)) | fail "op 6"
                try simp only [Act.put, List.setIfInBounds_toArray, List.set_cons_zero, List.set_cons_succ]
                refine wpAnyJ_take (i := 7) (oi := ?_) (v := ?_) ?_ (by kernel_rfl) ?_ ?_ (by assumption) ?_; rotate_left 2; (focus (simp only [List.getElem?_toArray, List.getElem?_cons_succ, List.getElem?_cons_zero]; rfl)); (focus (exact fun _ _ _ h => h)); first | (focus (refine Or.inl ⟨by rfl, ?_⟩; intro w hSw; (try dsimp only at hSw); have c3 := hSw.cell (p := ⟨b9, o9 + i, none⟩) Hx9.out Hc9.out; (try dsimp only [Array.getD]); go_simp; (try with_reducible rfl))) | (focus (refine Or.inr ⟨by rfl, ?_⟩; rfl)) | fail "op 7"
                try simp only [Act.put, List.setIfInBounds_toArray, List.set_cons_zero, List.set_cons_succ]
                refine wpAnyJ_take (i := 8) (oi := ?_) (v := ?_) ?_ (by kernel_rfl) ?_ ?_ (by assumption) ?_; rotate_left 2; (focus (simp only [List.getElem?_toArray, List.getElem?_cons_succ, List.getElem?_cons_zero]; rfl)); (focus (exact fun _ _ _ h => h)); first | (focus (refine Or.inl ⟨by rfl, ?_⟩; intro w hSw; (try dsimp only at hSw); (try dsimp only [Array.getD]); go_simp; (try with_reducible rfl))) | (focus (refine Or.inr ⟨by rfl, ?_⟩; rfl)) | fail "op 8"
                try simp only [Act.put, List.setIfInBounds_toArray, List.set_cons_zero, List.set_cons_succ]
                refine wpAnyJ_take (i := 9) (oi := ?_) (v := ?_) ?_ (by kernel_rfl) ?_ ?_ (by assumption) ?_; rotate_left 2; (focus (simp only [List.getElem?_toArray, List.getElem?_cons_succ, List.getElem?_cons_zero]; rfl)); (focus (exact fun _ _ _ h => h)); first | (focus (refine Or.inl ⟨by rfl, ?_⟩; intro w hSw; (try dsimp only at hSw); have c4 := hSw.cell (p := ⟨A, n, none⟩) HxA.out Hfa.out; (try dsimp only [Array.getD]); go_simp; (try with_reducible rfl))) | (focus (refine Or.inr ⟨by rfl, ?_⟩; rfl)) | fail "op 9"
                try simp only [Act.put, List.setIfInBounds_toArray, List.set_cons_zero, List.set_cons_succ]
                refine wpAnyJ_take (i := 10) (oi := ?_) (v := ?_) ?_ (by kernel_rfl) ?_ ?_ (by assumption) ?_; rotate_left 2; (focus (simp only [List.getElem?_toArray, List.getElem?_cons_succ, List.getElem?_cons_zero]; rfl)); (focus (exact fun _ _ _ h => h)); first | (focus (refine Or.inl ⟨by rfl, ?_⟩; intro w hSw; (try dsimp only at hSw); (try dsimp only [Array.getD]); go_simp; (try with_reducible rfl))) | (focus (refine Or.inr ⟨by rfl, ?_⟩; rfl)) | fail "op 10"
                try simp only [Act.put, List.setIfInBounds_toArray, List.set_cons_zero, List.set_cons_succ]
                refine wpAnyJ_take (i := 11) (oi := ?_) (v := ?_) ?_ (by kernel_rfl) ?_ ?_ (by assumption) ?_; rotate_left 2; (focus (simp only [List.getElem?_toArray, List.getElem?_cons_succ, List.getElem?_cons_zero]; rfl)); (focus (exact fun _ _ _ h => h)); first | (focus (refine Or.inl ⟨by rfl, ?_⟩; intro w hSw; (try dsimp only at hSw); (try dsimp only [Array.getD]); go_simp; (try with_reducible rfl))) | (focus (refine Or.inr ⟨by rfl, ?_⟩; rfl)) | fail "op 11"
                try simp only [Act.put, List.setIfInBounds_toArray, List.set_cons_zero, List.set_cons_succ]
                refine wpAnyJ_take (i := 12) (oi := ?_) (v := ?_) ?_ (by kernel_rfl) ?_ ?_ (by assumption) ?_; rotate_left 2; (focus (simp only [List.getElem?_toArray, List.getElem?_cons_succ, List.getElem?_cons_zero]; rfl)); (focus (exact fun _ _ _ h => h)); first | (focus (refine Or.inl ⟨by rfl, ?_⟩; intro w hSw; (try dsimp only at hSw); (try dsimp only [Array.getD]); go_simp; (try with_reducible rfl))) | (focus (refine Or.inr ⟨by rfl, ?_⟩; rfl)) | fail "op 12"
                try simp only [Act.put, List.setIfInBounds_toArray, List.set_cons_zero, List.set_cons_succ]
                refine wpAnyJ_take (i := 13) (oi := ?_) (v := ?_) ?_ (by kernel_rfl) ?_ ?_ (by assumption) ?_; rotate_left 2; (focus (simp only [List.getElem?_toArray, List.getElem?_cons_succ, List.getElem?_cons_zero]; rfl)); (focus (exact fun _ _ _ h => h)); first | (focus (refine Or.inl ⟨by rfl, ?_⟩; intro w hSw; (try dsimp only at hSw); refine (exec_load_mid 31 (.tmp 84) (by rfl) bl (ol + k * 6) (by rfl) (ptC q) _ (fun j u hu => hSw.cell (p := ⟨bl, ol + k * 6 + j, none⟩) Hxm.out (Hq.out j u hu)) Try.underlying31 rfl info_pt).trans ?_; with_reducible rfl)) | (focus (refine Or.inr ⟨by rfl, ?_⟩; rfl)) | fail "op 13"
                try simp only [Act.put, List.setIfInBounds_toArray, List.set_cons_zero, List.set_cons_succ]
                refine wpAnyJ_ready (rs := [14]) (by kernel_rfl) (by simp) (by rfl) ?_
                refine AllReadyJ.cons (o := ?_) ?_ (fun K hK => ?_) AllReadyJ.nil; rotate_left; (focus (simp only [List.getElem?_toArray, List.getElem?_cons_succ, List.getElem?_cons_zero]; rfl))
                rw [if_pos (by rfl)]
                refine wp_lit_pt (.tmp 85) rfl q rfl (fun w6 e6 => ?_)
                have hg6 : Gr wr w6 := by rw [← e6]; exact hz0.tr (Gr.al Gr.rfl' _)
                have hA6 := heap_alloc_new wz (.cells (ptC q).toArray 31)
                rw [e6] at hA6
                obtain ⟨A6, eA6⟩ : ∃ A, wz.heap.size = A := ⟨_, rfl⟩
                rw [eA6] at hA6 ⊢
                refine hK.out _ _ (Bt.of hg6) (fun hHeld => ?_)
                clear hK K
                try simp only [Act.put, List.setIfInBounds_toArray, List.set_cons_zero, List.set_cons_succ]
                refine wpAnyJ_ready (rs := [15]) (by kernel_rfl) (by simp) (by rfl) ?_
                refine AllReadyJ.cons (o := ?_) ?_ (fun K hK => ?_) AllReadyJ.nil; rotate_left; (focus (simp only [List.getElem?_toArray, List.getElem?_cons_succ, List.getElem?_cons_zero]; rfl))
                rw [if_pos (by rfl)]
                refine wp_append_pt (.tmp 81) (.tmp 86) rfl N0 _ R rfl (own_gr Hown.out hg6) q A6 rfl hA6 (by omega) (Nat.le_trans HH.out.nw hg6.size) (fun a' c' w7 hown7 hg7 hat7 => ?_)
                have hbt7 : Bt (fun b => (Value.slice fa R.length fc).ownBlock = some b) w6 w7 := ⟨hg7.os, hg7.tape, hg7.output, hg7.size, fun b hb hne => hg7.block b hb (fun e => hne e.symm)⟩
                refine hK.out _ _ (hHeld.tr hbt7) (fun hHeld => ?_)
                clear hK K
                try simp only [Act.put, List.setIfInBounds_toArray, List.set_cons_zero, List.set_cons_succ]
                refine wpAnyJ_take (i := 16) (oi := ?_) (v := ?_) ?_ (by kernel_rfl) ?_ ?_ (by assumption) ?_; rotate_left 2; (focus (simp only [List.getElem?_toArray, List.getElem?_cons_succ, List.getElem?_cons_zero]; rfl)); (focus (exact fun _ _ _ h => h)); first | (focus (refine Or.inl ⟨by rfl, ?_⟩; intro w hSw; (try dsimp only at hSw); (try dsimp only [Array.getD]); go_simp; (try with_reducible rfl))) | (focus (refine Or.inr ⟨by rfl, ?_⟩; rfl)) | fail "op 16"
                try simp only [Act.put, List.setIfInBounds_toArray, List.set_cons_zero, List.set_cons_succ]
                refine wpAnyJ_tail (i := 17) (o := ?_) (by kernel_rfl) (by decide) ?_ (fun K hK => ?_); rotate_left; (focus (simp only [List.getElem?_toArray, List.getElem?_cons_succ, List.getElem?_cons_zero]; rfl))
                have c5 := hHeld.cell (p := ⟨A, n, none⟩) HxA.out Hfa.out
                have f5 := frozen_bt hHeld (p := ⟨A, n, none⟩) HxA.out Hfa.out Hfz.out
                go_simp
                refine hK.out _ _ ?_
                clear hK K
                try simp only [Act.put, List.setIfInBounds_toArray, List.set_cons_zero, List.set_cons_succ]
                refine wpAny_done (by kernel_rfl) ?_ _
                have hb8 : Bt (fun k => k = A) w7 (w7.setCell ⟨A, n, none⟩ (.slice a' (R.length + 1) c')) := Bt.row (grown_set w7 A n _) rfl
                have hbt : Bt (fun k => A ≤ k) wr (w7.setCell ⟨A, n, none⟩ (.slice a' (R.length + 1) c')) := (hHeld.mono (fun k _ hk => by rw [← Efn.out] at hk; have := Hx1.out k hk; show A ≤ k; omega)).tr (hb8.mono (fun k _ hk => Nat.le_of_eq hk.symm))
                have HD8 := Lib.hid (HD.out.far hbt (fun k hk => hk))
                have HM8 := Lib.hid ((HM.out.bt hHeld (fun a n c e _ => by have e1 := (Value.slice.inj e).1; injection e1 with e1; rw [← e1]; exact Hxm.out)).bt hb8 (fun a n c e _ => (HF.out a n c e).2))
                have hs := HH.out.snoc hg6 hn16 (y := q) (v' := .slice a' (R.length + 1) c') (by rw [Efn.out]; exact hg7) (by simp only [if_true]; rw [HER.out]; exact hown7) (by rw [Efn.out]; exact hat7)
                have HH8 := Lib.hid (hs.congr (g' := fun m => if m = n then cutK (S.take (k + 1)) t else hadG (nodesOf ns) (cutK S t) i m) (fun m _ => by by_cases e : m = n <;> simp [e, L2.out]))
                have HF8 := Lib.hid (apart_snoc (n := n) (B := w6.heap.size) (v' := .slice a' (R.length + 1) c') HF.out hn16 (fun a n c e => by have e1 := (Value.slice.inj e).1; injection e1 with e1; rw [← e1]; exact Nat.lt_of_lt_of_le (show bl < wr.heap.size from World.block_lt_of_cell? wr ⟨bl, ol + k * 6 + 0, none⟩ (Hq.out 0 _ rfl)) hg6.size) (by rw [Efn.out]; exact hat7))
                generalize w7.setCell ⟨A, n, none⟩ (.slice a' (R.length + 1) c') = w8 at *
                clear hs hbt hb8 hbt7 hg7 hat7 hown7 hHeld hA6 e6 hg6 HD HM HH HF c5 f5
                go_wp2_with fail
                go_roundw
                case rel => exact ⟨k + 1, y, _, by omega, by go_num, rfl, Lib.hid (by rw [L1.out, HY.out]), by omega, HD8, HH8, HM8, HF8⟩
                case measure => simp [intOf]; omega
            · obtain rfl : k = S.length := by omega
              have hlow : lowN S t ≤ 20 := Nat.le_trans (List.length_filter_le _ _) hSl
              have HY2 := Lib.hid (show y = (i + 1) * lowN S t by rw [HY.out, HX.out, List.take_length, Nat.add_mul, Nat.one_mul])
              have HH2 := Lib.hid (HH.out.congr (g' := hadG (nodesOf ns) (cutK S t) (i + 1)) (fun m _ => by
                by_cases e : m = n
                · rw [if_pos e, e, Hat.out.2.1, List.take_length]
                · rw [if_neg e, Hat.out.2.2 m e]))
              clear hkl
              go_wp2_with fail
              go_roundw
              case rel => exact ⟨i + 1, y, f, by omega, by go_num, rfl, HY2, by omega, HD, HH2⟩
              case measure => simp [intOf]; omega
        · obtain rfl : i = (nodesOf ns).length := by omega
          clear hlt
          have hx := HX.out
          go_wp2_with fail
          refine (drop_calls _ p b 600 _ HD.out.one.at_ HL.out t).mono ?_
          rintro e w5 ⟨rfl, ha5, hb5⟩
          rw [HS3.out, ← hx]
          rw [HS5.out.1] at ha5
          have HD5 := Lib.hid (HD.out.turn ha5 hb5)
          have HH5 := Lib.hid (HH.out.bt hb5 (fun k e => by have := HD.out.ba; have := HH.out.ab; omega))
          clear ha5 hb5 HD HH hx
          go_wp2_with fail
          refine (drop_calls _ p b 600 _ HD5.out.one.at_ HL2.out t).mono ?_
          rintro e w6 ⟨rfl, ha6, hb6⟩
          rw [HS4.out]
          rw [HS5.out.2] at ha6
          have HD6 := Lib.hid (HD5.out.turn ha6 hb6)
          have HH6 := Lib.hid (HH5.out.bt hb6 (fun k e => by have := HD5.out.ba; have := HH5.out.ab; omega))
          clear ha6 hb6 HD5 HH5
          obtain ⟨wo, rfl⟩ : ∃ wo : World, wo = wr := ⟨_, rfl⟩
          go_wp2_with fail
          go_loopw [16] (fun iv wr => ∃ (i : Nat), i ≤ (nodesOf ns).length ∧ iv = .int .i64 i ∧ Hid (Dp w wr p b ns (KL ns (cutK K t)) (.slice a9 (nodesOf ns).length c9) A) ∧ Hid (Had wr A N0 (hadG (nodesOf ns) (cutK S t) (nodesOf ns).length) f)) (fun iv _ => (nodesOf ns).length - (intOf iv).toNat)
          case atStart => exact ⟨0, Nat.zero_le _, rfl, HD6, HH6⟩
          case round =>
            obtain ⟨i, hi, rfl, HD, HH⟩ := hrel
            clear HD6 HH6
            by_cases hlt : i < (nodesOf ns).length
            · have hlt' : (i : Int) < (nodesOf ns).length := by omega
              obtain ⟨_, _, e0, _, hx⟩ := rd_at HD.out.all
              obtain ⟨b9, o9, ea9, hz9⟩ := hx (by omega)
              have e09 := (Value.slice.inj e0).1
              rw [ea9] at e09
              subst e09
              clear ea9 hx e0 hz9
              have Hcell := Lib.hid (HD.out.cell hlt)
              obtain ⟨n, en, hn16⟩ := HNat.out i hlt
              have Hf := Lib.hid (HS2.out _ (HMem.out i hlt))
              have Hat := Lib.hid (hadG_all (S := cutK S t) hlt en)
              rw [en] at Hcell Hf
              have Hca := Lib.hid (HH.out.arr n hn16).1
              have Hrow := Lib.hid (HH.out.row n hn16)
              rw [Hat.out] at Hrow
              clear en
              have hn16' : (n : Int) < 16 := by omega
              have hcl : (cutK S t).length ≤ 20 := Nat.le_trans (List.length_filter_le _ _) hSl
              have Hc9 := Hcell
              have Hown := Lib.hid (rdRow_of_own Hrow.out)
              obtain ⟨fa, fc, efn⟩ := own_slice Hrow.out
              rw [efn] at Hca Hown
              clear Hrow Hcell efn
              obtain ⟨R, eR⟩ : ∃ R, cutK S t = R := ⟨_, rfl⟩
              rw [eR] at Hca Hown Hf hcl
              have HER := Lib.hid eR
              clear eR
              go_upto_region 29 with (fail)
              refine region_start (S := fun w' => Gr wr w') (by kernel_rfl) (by exact Gr.dr Gr.rfl') (fun wz hz0 hHeld => ?_)
              simp only [List.size_toArray, List.length_cons, List.length_nil, Nat.reduceAdd]
              refine wpAnyH_take (i := 0) (oi := ?_) (v := ?_) ?_ (by kernel_rfl) (by kernel_rfl) (by kernel_rfl) ?_ ?_ (by assumption) ?_; rotate_left 2; (focus (simp only [List.getElem?_toArray, List.getElem?_cons_zero]; rfl)); (focus (exact fun _ _ _ h => h)); first | (focus (refine Or.inl ⟨by rfl, ?_⟩; intro w hSw; (try dsimp only at hSw); (try dsimp only [Array.getD]); go_simp; (try with_reducible rfl))) | (focus (refine Or.inr ⟨by rfl, ?_⟩; rfl)) | fail "op 0"
              try simp only [Act.put, List.setIfInBounds_toArray, List.set_cons_zero, List.set_cons_succ]
              refine wpAnyH_take (i := 1) (oi := ?_) (v := ?_) ?_ (by kernel_rfl) (by kernel_rfl) (by kernel_rfl) ?_ ?_ (by assumption) ?_; rotate_left 2; (focus (simp only [List.getElem?_toArray, List.getElem?_cons_succ, List.getElem?_cons_zero]; rfl)); (focus (exact fun _ _ _ h => h)); first | (focus (refine Or.inl ⟨by rfl, ?_⟩; intro w hSw; (try dsimp only at hSw); (try dsimp only [Array.getD]); go_simp; (try with_reducible rfl))) | (focus (refine Or.inr ⟨by rfl, ?_⟩; rfl)) | fail "op 1"
              try simp only [Act.put, List.setIfInBounds_toArray, List.set_cons_zero, List.set_cons_succ]
              refine wpAnyH_take (i := 2) (oi := ?_) (v := ?_) ?_ (by kernel_rfl) (by kernel_rfl) (by kernel_rfl) ?_ ?_ (by assumption) ?_; rotate_left 2; (focus (simp only [List.getElem?_toArray, List.getElem?_cons_succ, List.getElem?_cons_zero]; rfl)); (focus (exact fun _ _ _ h => h)); first | (focus (refine Or.inl ⟨by rfl, ?_⟩; intro w hSw; (try dsimp only at hSw); (try dsimp only [Array.getD]); go_simp; (try with_reducible rfl))) | (focus (refine Or.inr ⟨by rfl, ?_⟩; rfl)) | fail "op 2"
              try simp only [Act.put, List.setIfInBounds_toArray, List.set_cons_zero, List.set_cons_succ]
              refine wpAnyH_take (i := 3) (oi := ?_) (v := ?_) ?_ (by kernel_rfl) (by kernel_rfl) (by kernel_rfl) ?_ ?_ (by assumption) ?_; rotate_left 2; (focus (simp only [List.getElem?_toArray, List.getElem?_cons_succ, List.getElem?_cons_zero]; rfl)); (focus (exact fun _ _ _ h => h)); first | (focus (refine Or.inl ⟨by rfl, ?_⟩; intro w hSw; (try dsimp only at hSw); (try dsimp only [Array.getD]); go_simp; (try with_reducible rfl))) | (focus (refine Or.inr ⟨by rfl, ?_⟩; rfl)) | fail "op 3"
              try simp only [Act.put, List.setIfInBounds_toArray, List.set_cons_zero, List.set_cons_succ]
              refine wpAnyH_take (i := 4) (oi := ?_) (v := ?_) ?_ (by kernel_rfl) (by kernel_rfl) (by kernel_rfl) ?_ ?_ (by assumption) ?_; rotate_left 2; (focus (simp only [List.getElem?_toArray, List.getElem?_cons_succ, List.getElem?_cons_zero]; rfl)); (focus (exact fun _ _ _ h => h)); first | (focus (refine Or.inl ⟨by rfl, ?_⟩; intro w hSw; (try dsimp only at hSw); have c3 := keepc hSw Hc9.out; (try dsimp only [Array.getD]); go_simp; (try with_reducible rfl))) | (focus (refine Or.inr ⟨by rfl, ?_⟩; rfl)) | fail "op 4"
              try simp only [Act.put, List.setIfInBounds_toArray, List.set_cons_zero, List.set_cons_succ]
              refine wpAnyH_take (i := 6) (oi := ?_) (v := ?_) ?_ (by kernel_rfl) (by kernel_rfl) (by kernel_rfl) ?_ ?_ (by assumption) ?_; rotate_left 2; (focus (simp only [List.getElem?_toArray, List.getElem?_cons_succ, List.getElem?_cons_zero]; rfl)); (focus (exact fun _ _ _ h => h)); first | (focus (refine Or.inl ⟨by rfl, ?_⟩; intro w hSw; (try dsimp only at hSw); (try dsimp only [Array.getD]); go_simp; (try with_reducible rfl))) | (focus (refine Or.inr ⟨by rfl, ?_⟩; rfl)) | fail "op 6"
              try simp only [Act.put, List.setIfInBounds_toArray, List.set_cons_zero, List.set_cons_succ]
              refine wpAnyH_take (i := 7) (oi := ?_) (v := ?_) ?_ (by kernel_rfl) (by kernel_rfl) (by kernel_rfl) ?_ ?_ (by assumption) ?_; rotate_left 2; (focus (simp only [List.getElem?_toArray, List.getElem?_cons_succ, List.getElem?_cons_zero]; rfl)); (focus (exact fun _ _ _ h => h)); first | (focus (refine Or.inl ⟨by rfl, ?_⟩; intro w hSw; (try dsimp only at hSw); (try dsimp only [Array.getD]); go_simp; (try with_reducible rfl))) | (focus (refine Or.inr ⟨by rfl, ?_⟩; rfl)) | fail "op 7"
              try simp only [Act.put, List.setIfInBounds_toArray, List.set_cons_zero, List.set_cons_succ]
              refine wpAnyH_take (i := 8) (oi := ?_) (v := ?_) ?_ (by kernel_rfl) (by kernel_rfl) (by kernel_rfl) ?_ ?_ (by assumption) ?_; rotate_left 2; (focus (simp only [List.getElem?_toArray, List.getElem?_cons_succ, List.getElem?_cons_zero]; rfl)); (focus (exact fun _ _ _ h => h)); first | (focus (refine Or.inl ⟨by rfl, ?_⟩; intro w hSw; (try dsimp only at hSw); (try dsimp only [Array.getD]); go_simp; (try with_reducible rfl))) | (focus (refine Or.inr ⟨by rfl, ?_⟩; rfl)) | fail "op 8"
              try simp only [Act.put, List.setIfInBounds_toArray, List.set_cons_zero, List.set_cons_succ]
              refine wpAnyH_take (i := 9) (oi := ?_) (v := ?_) ?_ (by kernel_rfl) (by kernel_rfl) (by kernel_rfl) ?_ ?_ (by assumption) ?_; rotate_left 2; (focus (simp only [List.getElem?_toArray, List.getElem?_cons_succ, List.getElem?_cons_zero]; rfl)); (focus (exact fun _ _ _ h => h)); first | (focus (refine Or.inl ⟨by rfl, ?_⟩; intro w hSw; (try dsimp only at hSw); have c3 := keepc hSw Hc9.out; (try dsimp only [Array.getD]); go_simp; (try with_reducible rfl))) | (focus (refine Or.inr ⟨by rfl, ?_⟩; rfl)) | fail "op 9"
              try simp only [Act.put, List.setIfInBounds_toArray, List.set_cons_zero, List.set_cons_succ]
              refine wpAnyH_take (i := 10) (oi := ?_) (v := ?_) ?_ (by kernel_rfl) (by kernel_rfl) (by kernel_rfl) ?_ ?_ (by assumption) ?_; rotate_left 2; (focus (simp only [List.getElem?_toArray, List.getElem?_cons_succ, List.getElem?_cons_zero]; rfl)); (focus (exact fun _ _ _ h => h)); first | (focus (refine Or.inl ⟨by rfl, ?_⟩; intro w hSw; (try dsimp only at hSw); (try dsimp only [Array.getD]); go_simp; (try with_reducible rfl))) | (focus (refine Or.inr ⟨by rfl, ?_⟩; rfl)) | fail "op 10"
              try simp only [Act.put, List.setIfInBounds_toArray, List.set_cons_zero, List.set_cons_succ]
              refine wpAnyH_take (i := 11) (oi := ?_) (v := ?_) ?_ (by kernel_rfl) (by kernel_rfl) (by kernel_rfl) ?_ ?_ (by assumption) ?_; rotate_left 2; (focus (simp only [List.getElem?_toArray, List.getElem?_cons_succ, List.getElem?_cons_zero]; rfl)); (focus (exact fun _ _ _ h => h)); first | (focus (refine Or.inl ⟨by rfl, ?_⟩; intro w hSw; (try dsimp only at hSw); have c4 := keepc hSw Hca.out; (try dsimp only [Array.getD]); go_simp; (try with_reducible rfl))) | (focus (refine Or.inr ⟨by rfl, ?_⟩; rfl)) | fail "op 11"
              try simp only [Act.put, List.setIfInBounds_toArray, List.set_cons_zero, List.set_cons_succ]
              refine wpAnyH_ready (rs := [5]) (by kernel_rfl) (by simp) ?_
              refine AllReadyH.cons (o := ?_) ?_ (fun K hK => ?_) AllReadyH.nil; rotate_left; (focus (simp only [List.getElem?_toArray, List.getElem?_cons_succ, List.getElem?_cons_zero]; rfl))
              rw [if_pos (by rfl)]
              go_simp
              go_at_call 15
              refine (for_calls _ p b 600 _ (HD.out.one.grow hHeld).at_ HL2.out (n : Int) 600).mono ?_
              rintro e w7 ⟨vm, rfl, hrm, _, hg7⟩
              rw [Hf.out] at hrm
              refine hK.out _ _ (hHeld.tr hg7) (fun hHeld => ?_)
              clear hK K
              try simp only [Act.put, List.setIfInBounds_toArray, List.set_cons_zero, List.set_cons_succ]
              refine wpAnyH_ready (rs := [12]) (by kernel_rfl) (by simp) ?_
              refine AllReadyH.cons (o := ?_) ?_ (fun K hK => ?_) AllReadyH.nil; rotate_left; (focus (simp only [List.getElem?_toArray, List.getElem?_cons_succ, List.getElem?_cons_zero]; rfl))
              rw [if_pos (by rfl)]
              go_simp
              go_at_call 22
              refine (samep_calls _ _ R R _ (hrm.gr Gr.rfl') (Hown.out.gr hHeld) (by omega)).mono ?_
              rintro e w8 ⟨rfl, hg8⟩
              rw [decide_eq_true (rfl : R = R)]
              refine hK.out _ _ (hHeld.tr hg8) (fun hHeld => ?_)
              clear hK K
              try simp only [Act.put, List.setIfInBounds_toArray, List.set_cons_zero, List.set_cons_succ]
              refine wpAnyH_take (i := 13) (oi := ?_) (v := ?_) ?_ (by kernel_rfl) (by kernel_rfl) (by kernel_rfl) ?_ ?_ (by assumption) ?_; rotate_left 2; (focus (simp only [List.getElem?_toArray, List.getElem?_cons_succ, List.getElem?_cons_zero]; rfl)); (focus (exact fun _ _ _ h => h)); first | (focus (refine Or.inl ⟨by rfl, ?_⟩; intro w hSw; (try dsimp only at hSw); (try dsimp only [Array.getD]); go_simp; (try with_reducible rfl))) | (focus (refine Or.inr ⟨by rfl, ?_⟩; rfl)) | fail "op 13"
              try simp only [Act.put, List.setIfInBounds_toArray, List.set_cons_zero, List.set_cons_succ]
              refine wpAnyH_done (by kernel_rfl) ?_ _
              have HD8 := Lib.hid (HD.out.grow hHeld)
              have HH8 := Lib.hid (HH.out.gr hHeld)
              clear hHeld HD HH
              go_wp2_with fail
              go_roundw
              case rel => exact ⟨i + 1, by omega, by go_num, HD8, HH8⟩
              case measure => simp [intOf]; omega
            · obtain rfl : i = (nodesOf ns).length := by omega
              clear hlt
              go_wp2_with fail
              go_ret
              exact ⟨rfl, HD.out.one.gr⟩
end Go.Proofs.Ytijgbfhjimlklaa

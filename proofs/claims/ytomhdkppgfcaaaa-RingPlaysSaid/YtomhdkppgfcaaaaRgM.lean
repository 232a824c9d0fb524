/- The ring: RingMoves. -/
import Derived.Test.YtomhdkppgfcaaaaRgJ
import Derived.Test.YtomhdkppgfcaaaaRgL
import Derived.Deep.DeepCutAuto
namespace Go.Proofs.Ytomhdkppgfcaaaa
open Go.RowKit

abbrev encT (l : List ByteArray) : List Value := l.flatMap fun x => [.string x]
theorem encT_get {l : List ByteArray} {k : Nat} (h : k < l.length) : (encT l)[k]? = some (.string l[k]) := by
  have e : encT l = l.map .string := by
    clear h
    induction l with
    | nil => rfl
    | cons x r ih => rw [List.map_cons, ← ih]; rfl
  rw [e]; simp [h]
theorem filter_take_yes {l : List Int} {n : Int} {i : Nat} (hi : i < l.length) (h : ¬ l[i] = n) : (l.take (i + 1)).filter (fun x => !decide (x = n)) = (l.take i).filter (fun x => !decide (x = n)) ++ [l[i]] := by
  rw [List.take_succ_eq_append_getElem hi, List.filter_append, List.filter_cons_of_pos (by simp [h])]; rfl
theorem filter_take_no {l : List Int} {n : Int} {i : Nat} (hi : i < l.length) (h : l[i] = n) : (l.take (i + 1)).filter (fun x => !decide (x = n)) = (l.take i).filter (fun x => !decide (x = n)) := by
  rw [List.take_succ_eq_append_getElem hi, List.filter_append, List.filter_cons_of_neg (by simp [h])]; simp
theorem nodesOf_without (l : List Int) (n : Int) : nodesOf (l.filter fun x => !decide (x = n)) = (nodesOf (l.filter (fun x => !decide (x = n)) ++ [n])).filter fun x => !decide (x = n) := by
  unfold nodesOf nodesTo
  rw [List.filter_filter]
  apply List.filter_congr
  intro x _
  by_cases h : x = n <;> simp [h]

set_option maxRecDepth 100000 in
set_option maxHeartbeats 3000000 in
theorem moves_law (v0 v2 : Value) (l : List Int) (ks : List ByteArray) (more : Int) (w : World) (h0 : rdRow w 1 v0 l.length (encI l)) (hl : l.length ≤ maxLen) (h2 : rdRow w 1 v2 ks.length (encT ks)) (hk : ks.length ≤ maxLen) :
    Calls Try.prog 4 #[v0, .int .i64 more, v2] w fun e w' => e = .returned (.bool true) ∧ Gr w w' := by
  obtain ⟨_, ka, kcap, rfl, hkc, hkrd⟩ := h2
  have hkr : 0 < ks.length → ∃ b o, ka = some ⟨b, o, none⟩ ∧ ∀ j (hj : j < ks.length), w.cell? ⟨b, o + j, none⟩ = some (.string ks[j]) := fun hp => by
    obtain ⟨b, o, e, h3⟩ := hkrd hp
    exact ⟨b, o, e, fun j hj => h3 _ _ (encT_get hj)⟩
  have Hkr := Lib.hid hkr
  clear hkrd hkr
  have hfew := few_calls v0 l
  have hA : (l.take 12).length ≤ 12 := by simp; omega
  generalize l.take 12 = A at *
  have Hfew := Lib.hid (fun W hg => hfew W (h0.gr hg) hl)
  obtain ⟨va0, vc0, rfl⟩ : ∃ a c, v0 = .slice a l.length c := by obtain ⟨_, a, c, e, _⟩ := h0; exact ⟨a, c, e⟩
  clear hfew h0 hl
  obtain ⟨i0, hi, hz0, hz1, hz2⟩ := info_parts infoInt
  go_enter Try.func4, Try.ntmps4
  go_wp2_with fail
  refine (awake_calls _).mono ?_
  rintro e w1 ⟨rfl, hG⟩
  go_wp2_with fail
  refine (Hfew.out _ hG).mono ?_
  rintro e w2 ⟨vA, rfl, hrA, rfl⟩
  clear Hfew
  go_wp2_with fail
  generalize bits .and .i64 more 15 = n at *
  obtain ⟨aA, cA, rfl, hcA, hcells⟩ := rd_at hrA
  have HA := Lib.hid hcells
  clear hrA hcells
  go_loopw [10, 11] (fun u v wr => ∃ i : Nat, i ≤ A.length ∧ v = .int .i64 i ∧ wr.ownsRow w1.heap.size 3 1 u ((A.take i).filter fun x => !decide (x = n)).length (encI ((A.take i).filter fun x => !decide (x = n))) ∧ (((A.take i).filter fun x => !decide (x = n)) = [] → u = .slice none 0 0) ∧ Gr w1 wr) (fun _ v _ => A.length - (intOf v).toNat)
  case atStart => exact ⟨0, Nat.zero_le _, rfl, World.ownsRow_nil _ _ _ _, fun _ => rfl, Gr.rfl'⟩
  case round =>
    obtain ⟨i, hi1, rfl, hown, hnil, hg⟩ := hrel
    have hgz := hg.size
    obtain ⟨ua, uc, hu⟩ := own_slice hown
    subst hu
    have hfl := List.length_filter_le (fun x => !decide (x = n)) (A.take i)
    have htl : (A.take i).length = min i A.length := by simp
    by_cases hlt : i < A.length
    · have h1 : (i : Int) < A.length := by omega
      obtain ⟨b, o, rfl, hc⟩ := HA.out (by omega)
      have c0 := keepc hg (hc i hlt)
      have Hy := Lib.hid (filter_take_yes (n := n) hlt)
      have Hn := Lib.hid (filter_take_no (n := n) hlt)
      have Hown := Lib.hid hown
      have Hnil := Lib.hid hnil
      clear hc hown hnil
      generalize A[i] = x at *
      generalize (A.take i).filter (fun x => !decide (x = n)) = Fi at *
      by_cases he : x = n
      · have he' : (x == n) = true := by simp [he]
        have hF := Lib.hid (Hn.out he)
        clear he
        go_wp2_with fail
        go_roundw
        case rel => exact ⟨i + 1, by omega, by go_num, by rw [hF.out]; exact Hown.out, by rw [hF.out]; exact Hnil.out, hg⟩
        case measure => simp [intOf]; omega
      · have he' : (x == n) = false := by simp [he]
        have hF := Lib.hid (Hy.out he)
        clear he
        go_wp2_with (at_builtin; refine wpList_append_own _ rfl _ _ 27 rfl w1.heap.size 3 i0 _ 1 8 Try.underlying27 hi hz0 hz1 hz2 rfl (by decide) _ _ _ rfl (Hown.out.alloc _) ⟨wr.heap.size, 0, none⟩ 1 1 [.int .i64 x] rfl rfl (World.news_of_block (heap_alloc_new wr _)) (by intro u hu; simp only [List.mem_cons, List.not_mem_nil, or_false] at hu; subst hu; rfl) (by unfold maxLen; omega) (by omega) (by simp; omega) ?_; intro v3 w3 hown3 hgrow3 _)
        go_roundw
        case rel => exact ⟨i + 1, by omega, by go_num, own_cast hown3 (by rw [hF.out]; simp) (by rw [hF.out, encI_snoc]), by rw [hF.out]; simp, gr_gb (by (repeat (first | exact Gr.rfl' | refine Gr.al ?_ _ | refine Gr.dr ?_ | refine Gr.drN ?_ | refine Gr.sc ?_ (by simp <;> omega) _ | refine Gr.tr ?_ (by assumption)))) hgrow3 (fun j hj => (Hown.out.lt j hj).1)⟩
        case measure => simp [intOf]; omega
    · obtain rfl : i = A.length := by omega
      rw [List.take_length] at hown hnil hfl ⊢
      have HT := Lib.hid (nodesOf_without A n)
      clear htl HA
      generalize A.filter (fun x => !decide (x = n)) = T at *
      go_upto_region 11 with fail
      go_cut [12] (fun v wx => wx.ownsRow w1.heap.size 3 1 v T.length (encI T) ∧ wx.ownsRow w1.heap.size 3 1 (.slice ua T.length uc) T.length (encI T) ∧ (∀ j, Value.ownBlock (.slice ua T.length uc) = some j → v.ownBlock ≠ some j) ∧ Gr w1 wx)
      case first =>
        cases T with
        | nil =>
          have e := hnil rfl
          injection e with e1 _ e3
          subst e1; subst e3
          have Hown := Lib.hid hown
          clear hown hnil
          go_wp2_with fail
          go_meet
          exact ⟨World.ownsRow_nil _ _ _ _, Hown.out, (by intro j hj; cases hj), hg⟩
        | cons t0 T' =>
          obtain ⟨g, gc, hvg, hgb, hgl⟩ := own_at hown (by simp)
          injection hvg with e1 e2 e3
          subst e1; subst e3
          have Hown := Lib.hid hown
          have Hcel := Lib.hid (hown.cells (g := g) rfl)
          generalize t0 :: T' = T at *
          clear hown hnil
          go_wp2_with (at_builtin; refine wpList_append_own _ rfl _ _ 27 rfl wr.heap.size 3 i0 _ 1 8 Try.underlying27 hi hz0 hz1 hz2 rfl (by decide) _ 0 [] rfl (World.ownsRow_nil _ _ _ _) ⟨g, 0, none⟩ T.length _ (encI T) rfl (by rw [encI_map]; simp) Hcel.out (by intro u hu; obtain ⟨x, _, hx⟩ := List.mem_flatMap.1 hu; simp only [List.mem_cons, List.not_mem_nil, or_false] at hx; subst hx; rfl) (by unfold maxLen; omega) (by omega) (by omega) ?_; intro v3 w3 hown3 hgrow3 _)
          go_meet
          have hg3 : Gr wr w3 := gr_gb Gr.rfl' hgrow3 (fun j hj => by cases hj)
          exact ⟨own_mono (own_cast hown3 (by omega) (by simp)) hgz, own_gr Hown.out hg3, (by intro j hj e; have h5 := (hown3.lt j e).1; have h6 : g = j := (by simpa [Value.ownBlock] using hj); omega), hg.tr hg3⟩
      case rest =>
        obtain ⟨hownW, hownT, hsep, hgW⟩ := hcut
        obtain ⟨xa, xc, hxw⟩ := own_slice hownW
        subst hxw
        have HW := Lib.hid hownW
        have HTo := Lib.hid hownT
        have Hsep := Lib.hid hsep
        have hgWz := hgW.size
        clear hownW hownT hsep hown hnil hg hgz
        go_wp2_with (at_builtin; refine wpList_append_own _ rfl _ _ 27 rfl w1.heap.size 3 i0 _ 1 8 Try.underlying27 hi hz0 hz1 hz2 rfl (by decide) _ _ _ rfl (HW.out.alloc _) ⟨wc.heap.size, 0, none⟩ 1 1 [.int .i64 n] rfl rfl (World.news_of_block (heap_alloc_new wc _)) (by intro u hu; simp only [List.mem_cons, List.not_mem_nil, or_false] at hu; subst hu; rfl) (by unfold maxLen; omega) (by omega) (by simp; omega) ?_; intro v5 w5 hown5 hgrow5 _)
        have hT5 := (HTo.out.alloc (.cells #[.int .i64 n] 3)).kept hgrow5 (by
          rcases hv : Value.ownBlock (.slice ua T.length uc) with _ | j
          · exact .inl rfl
          · exact .inr (fun e => Hsep.out j hv e.symm))
        have hW5 : w5.ownsRow w1.heap.size 3 1 v5 (T ++ [n]).length (encI (T ++ [n])) := own_cast hown5 (by simp) (by rw [encI_snoc])
        have hG5 : Gr w1 w5 := gr_gb (by (repeat (first | exact Gr.rfl' | refine Gr.al ?_ _ | refine Gr.dr ?_ | refine Gr.drN ?_ | refine Gr.sc ?_ (by simp <;> omega) _ | refine Gr.tr ?_ (by assumption)))) hgrow5 (fun j hj => (HW.out.lt j hj).1)
        clear hown5 hgrow5 HW HTo Hsep hgW hgWz
        have hn1 := new_calls 1 _ T w5 (rdRow_of_own hT5) (by omega)
        refine hn1.mono ?_
        rintro e w6 ⟨p1, ps1, rfl, hps1, hrg1, hb⟩
        have hW6 := own_gr hW5 hb
        have hR1 := hrg1.rd
        have hG6 := hG5.tr hb
        clear hb hrg1 hn1 hT5 hW5 hG5
        have hn2 := new_calls 2 _ (T ++ [n]) w6 (rdRow_of_own hW6) (by simp; omega)
        go_wp2_with fail
        refine hn2.mono ?_
        rintro e w7 ⟨p2, ps2, rfl, hps2, hrg2, hb⟩
        have hR2 := hrg2.rd
        replace hR1 := hR1.gr hb
        have hG7 := hG6.tr hb
        clear hb hrg2 hn2 hW6 hG6
        have hlen1 := hps1.len
        have hlen2 := hps2.len
        have hnl1 := nodesTo_len T 16
        have hnl2 := nodesTo_len (T ++ [n]) 16
        have hsub := isPts_without hps2 hps1 HT.out
        have hfull := fun h => full_without hps2.2 h n
        have hK := hG.tr hG7
        have hP1 := fun W hg key most hkey => prefer_calls p1 1 _ ps1 key most W (RD.gr hR1 hg) (by rw [hlen1]; unfold nodesOf; omega) hps1.2 hkey
        have hP2 := fun W hg key most hkey => prefer_calls p2 2 _ ps2 key most W (RD.gr hR2 hg) (by rw [hlen2]; unfold nodesOf; omega) hps2.2 hkey
        have hpl := fun key most => moves_plain (nodup_dd ((rot ps2 (lo ps2 (hashS key))).map (·.2))) n most
        have hq1 : ∀ h most, prefer ps1 h most = ((dd ((rot ps2 (lo ps2 h)).map (·.2))).filter fun x => !decide (x = n)).take most.toNat := fun h most => by rw [prefer_dd, hsub, hfull]
        have hq2 : ∀ h most, prefer ps2 h most = (dd ((rot ps2 (lo ps2 h)).map (·.2))).take most.toNat := fun h most => prefer_dd ps2 h most
        have HP1 := Lib.hid hP1; have HP2 := Lib.hid hP2; have Hpl := Lib.hid hpl; have Hq1 := Lib.hid hq1; have Hq2 := Lib.hid hq2
        clear hP1 hP2 hpl hq1 hq2 hfull hsub hlen1 hlen2 hnl1 hnl2 hR1 hR2 hps1 hps2 HT
        have HK := Lib.hid hK
        clear hK hG7
        go_wp2_with fail
        go_loopw [15] (fun v wr => ∃ i : Nat, v = .int .i64 i ∧ i ≤ 30 ∧ i ≤ ks.length ∧ Gr w7 wr) (fun v _ => 30 - (intOf v).toNat)
        case atStart => exact ⟨0, rfl, by omega, by omega, Gr.rfl'⟩
        case round =>
          obtain ⟨i, rfl, hi30, hik, hg⟩ := hrel
          by_cases hlt : i < ks.length
          · by_cases h30 : i < 30
            · have h1 : (i : Int) < ks.length := by omega
              have h2 : (i : Int) < 30 := by omega
              obtain ⟨b, o, rfl, hc⟩ := Hkr.out (by omega)
              have c0 := keepc (HK.out.tr hg) (hc i hlt)
              have hsh := fun W => short_calls ks[i] 100 (by decide) W
              clear hc
              generalize ks[i] = key at *
              go_wp2_with fail
              refine (hsh _).mono ?_
              rintro e w8 ⟨s', rfl, hs', rfl⟩
              have hs2 : s'.size ≤ 1000000 := by omega
              clear hsh c0 hs'
              go_wp2_with fail
              refine (HP1.out _ hg _ _ hs2).mono ?_
              rintro e w9 ⟨vx, rfl, hx, hb⟩
              replace hg := hg.tr hb
              clear hb
              go_wp2_with fail
              refine (HP2.out _ hg _ _ hs2).mono ?_
              rintro e wy ⟨vy, rfl, hy, hb⟩
              replace hx := own_gr hx hb
              replace hg := hg.tr hb
              clear hb
              rw [Hq1.out] at hx
              rw [Hq2.out] at hy
              have hmz : (1 + (i : Int) % 4).toNat ≤ 4 := by omega
              have hf := Hpl.out s' (1 + (i : Int) % 4).toNat
              generalize dd ((rot ps2 (lo ps2 (hashS s'))).map (·.2)) = FL at *
              have hXl : ((FL.filter fun x => !decide (x = n)).take (1 + (i : Int) % 4).toNat).length ≤ 4 := by rw [List.length_take]; omega
              have hYl : (FL.take (1 + (i : Int) % 4).toNat).length ≤ 4 := by rw [List.length_take]; omega
              generalize (FL.filter fun x => !decide (x = n)).take (1 + (i : Int) % 4).toNat = X at *
              generalize FL.take (1 + (i : Int) % 4).toNat = Y at *
              obtain ⟨f1, f2, f3, f4, f5⟩ := hf
              obtain ⟨xaa, xcc, hvx⟩ := own_slice hx
              obtain ⟨yaa, ycc, hvy⟩ := own_slice hy
              subst hvx; subst hvy
              obtain ⟨xa2, xcap0, hx0, hxcap, _⟩ := rd_at (rdRow_of_own hx)
              injection hx0 with hxa _ hx1
              subst hxa; subst hx1
              have Hx := Lib.hid (rdRow_of_own hx)
              obtain ⟨_, _, hy0, _, hycel⟩ := rd_at (rdRow_of_own hy)
              injection hy0 with hy1 _ _
              subst hy1
              have HY := Lib.hid hycel
              clear hx hy hycel
              go_wp2_with fail
              go_loopw [20, 21] (fun u v wr => ∃ j : Nat, j ≤ Y.length ∧ v = .int .i64 j ∧ wr.ownsRow wy.heap.size 3 1 u ((Y.take j).filter fun x => !decide (x = n)).length (encI ((Y.take j).filter fun x => !decide (x = n))) ∧ Gr wy wr) (fun _ v _ => Y.length - (intOf v).toNat)
              case atStart => exact ⟨0, Nat.zero_le _, rfl, World.ownsRow_nil _ _ _ _, Gr.rfl'⟩
              case round =>
                obtain ⟨j, hj1, rfl, hown, hgy⟩ := hrel
                have hgz := hgy.size
                obtain ⟨ra, rc, hu⟩ := own_slice hown
                subst hu
                have hfl := List.length_filter_le (fun x => !decide (x = n)) (Y.take j)
                have htl : (Y.take j).length = min j Y.length := by simp
                by_cases hjt : j < Y.length
                · have j1 : (j : Int) < Y.length := by omega
                  obtain ⟨b5, o5, rfl, hc⟩ := HY.out (by omega)
                  have c5 := keepc hgy (hc j hjt)
                  have Hy := Lib.hid (filter_take_yes (n := n) hjt)
                  have Hn := Lib.hid (filter_take_no (n := n) hjt)
                  have Hown := Lib.hid hown
                  clear hc hown
                  generalize Y[j] = x at *
                  generalize (Y.take j).filter (fun x => !decide (x = n)) = Fi at *
                  by_cases he : x = n
                  · have he' : (x == n) = true := by simp [he]
                    have hF := Lib.hid (Hn.out he)
                    clear he
                    go_wp2_with fail
                    go_roundw
                    case rel => exact ⟨j + 1, by omega, by go_num, by rw [hF.out]; exact Hown.out, hgy⟩
                    case measure => simp [intOf]; omega
                  · have he' : (x == n) = false := by simp [he]
                    have hF := Lib.hid (Hy.out he)
                    clear he
                    go_wp2_with (at_builtin; refine wpList_append_own _ rfl _ _ 27 rfl wy.heap.size 3 i0 _ 1 8 Try.underlying27 hi hz0 hz1 hz2 rfl (by decide) _ _ _ rfl (Hown.out.alloc _) ⟨wr.heap.size, 0, none⟩ 1 1 [.int .i64 x] rfl rfl (World.news_of_block (heap_alloc_new wr _)) (by intro u hu; simp only [List.mem_cons, List.not_mem_nil, or_false] at hu; subst hu; rfl) (by unfold maxLen; omega) (by omega) (by simp; omega) ?_; intro v3 w3 hown3 hgrow3 _)
                    go_roundw
                    case rel => exact ⟨j + 1, by omega, by go_num, own_cast hown3 (by rw [hF.out]; simp) (by rw [hF.out, encI_snoc]), gr_gb (by (repeat (first | exact Gr.rfl' | refine Gr.al ?_ _ | refine Gr.dr ?_ | refine Gr.drN ?_ | refine Gr.sc ?_ (by simp <;> omega) _ | refine Gr.tr ?_ (by assumption)))) hgrow3 (fun k hk => (Hown.out.lt k hk).1)⟩
                    case measure => simp [intOf]; omega
                · obtain rfl : j = Y.length := by omega
                  rw [List.take_length] at hown hfl ⊢
                  clear htl HY
                  generalize Y.filter (fun x => !decide (x = n)) = R at *
                  have i1 : ¬ ((Y.length : Int) - R.length > 1) := by omega
                  have i2 : ¬ ((R.length : Int) > X.length) := by omega
                  have i3 : ¬ ((X.length : Int) - R.length > 1) := by omega
                  have i4 : (R.length : Int) ≤ xcc := by omega
                  have hsm := same_calls (.slice xaa R.length xcc) (.slice ra R.length rc) (X.take R.length) R wr (rd_take (Hx.out.gr hgy) f3) (rdRow_of_own hown) (by rw [f5]; omega)
                  rw [f5] at hsm
                  have Hsm := Lib.hid hsm
                  clear hsm hown f5
                  go_wp2_with fail
                  with_reducible refine Hsm.out.mono ?_
                  rintro e wz ⟨rfl, hb⟩
                  go_wp2_with fail
                  go_roundw
                  case rel => exact ⟨i + 1, by go_num, by omega, by omega, (hg.tr hgy).tr hb⟩
                  case measure => simp [intOf]; omega
            · have h1 : (i : Int) < ks.length := by omega
              have h2 : ¬ (i : Int) < 30 := by omega
              go_wp2_with fail
              go_ret
              exact ⟨rfl, HK.out.tr hg⟩
          · have h1 : ¬ (i : Int) < ks.length := by omega
            go_wp2_with fail
            go_ret
            exact ⟨rfl, HK.out.tr hg⟩
end Go.Proofs.Ytomhdkppgfcaaaa

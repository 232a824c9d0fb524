/- The ring: RingPlays. -/
import Derived.Test.YtomhdkppgfcaaaaRgW
import Derived.Test.YtomhdkppgfcaaaaRgM
import Derived.BigQuiet
namespace Go.Proofs.Ytomhdkppgfcaaaa
open Go.RowKit

/-- The worlds in which all stands that stood in W. -/
structure GrW (W : World) where
  w : World
  h : Gr W w
instance (W : World) : Nonempty (GrW W) := ⟨⟨W, Gr.rfl'⟩⟩
/-- A region that draws its order, whose callees leave what was there: one walk, in the text's order. -/
theorem region_gr {P : Program} {id : Nat} {Q : Exit → Act → World → Prop} {a : Act} {w : World} {l : List Oper} (hm : P.follows .mixedOrders = true) (hB : Region.lexB .any l.toArray = true)
    (h : wpQuiet P l.toArray (fun w' => ∃ g : GrW w, w' = g.w) (fun a' => ∀ w', (∃ g : GrW w, w' = g.w) → Q .normal a' w') l a) : (Code.region id l.toArray true).wp P Q a w :=
  wp_region_quiet (C := fun w' => ∃ g : GrW w, w' = g.w) hm hB ⟨⟨_, Gr.dr Gr.rfl'⟩, rfl⟩ (by simpa using h)
def KeyAt (w : World) (B : Nat) (s : ByteArray) (ep most node place : Int) : Prop := w.cell? ⟨B, 0, none⟩ = some (.string s) ∧ w.cell? ⟨B, 1, none⟩ = some (.int .i64 ep) ∧ w.cell? ⟨B, 2, none⟩ = some (.int .i64 most) ∧ w.cell? ⟨B, 3, none⟩ = some (.int .i64 node) ∧ w.cell? ⟨B, 4, none⟩ = some (.int .i64 place)
theorem KeyAt.gr {w w1 : World} {B : Nat} {s : ByteArray} {ep most node place : Int} (h : KeyAt w B s ep most node place) (hg : Gr w w1) : KeyAt w1 B s ep most node place :=
  ⟨keepc hg h.1, keepc hg h.2.1, keepc hg h.2.2.1, keepc hg h.2.2.2.1, keepc hg h.2.2.2.2⟩

set_option maxRecDepth 100000 in
set_option maxHeartbeats 6000000 in
theorem plays_law (v0 v1 : Value) (l1 l2 : List Int) (key0 : ByteArray) (ep most node place : Int) (w : World) (h0 : rdRow w 1 v0 l1.length (encI l1)) (h1 : rdRow w 1 v1 l2.length (encI l2)) (hl1 : l1.length ≤ maxLen) (hl2 : l2.length ≤ maxLen) :
    Calls Try.prog 7 #[v0, v1, .agg #[.string key0, .int .i64 ep, .int .i64 most, .int .i64 node, .int .i64 place]] w fun e w' => e = .returned (.bool true) ∧ Gr w w' := by
  have hfew1 := few_calls v0 l1
  have hfew2 := few_calls v1 l2
  have hA : (l1.take 12).length ≤ 12 := by simp; omega
  have hB : (l2.take 12).length ≤ 12 := by simp; omega
  generalize l1.take 12 = A at *
  generalize l2.take 12 = Bl at *
  have Hfew1 := Lib.hid (fun W hg => hfew1 W (h0.gr hg) hl1)
  have Hfew2 := Lib.hid (fun W hg => hfew2 W (h1.gr hg) hl2)
  have hsh := fun W => short_calls key0 100 (by decide) W
  have Hsh := Lib.hid hsh
  clear hfew1 hfew2 h0 h1 hl1 hl2 hsh
  go_enter Try.func7, Try.ntmps7
  go_wp2_with fail
  have hK0 : KeyAt (w.alloc (.cells #[.string key0, .int .i64 ep, .int .i64 most, .int .i64 node, .int .i64 place] 43)) w.heap.size key0 ep most node place := by
    refine ⟨?_, ?_, ?_, ?_, ?_⟩ <;> exact cell_of_row _ w.heap.size _ _ _ _ (heap_alloc_new w _)
  have hG0 : Gr w (w.alloc (.cells #[.string key0, .int .i64 ep, .int .i64 most, .int .i64 node, .int .i64 place] 43)) := by (repeat (first | exact Gr.rfl' | refine Gr.al ?_ _ | refine Gr.dr ?_ | refine Gr.drN ?_ | refine Gr.sc ?_ (by simp <;> omega) _ | refine Gr.tr ?_ (by assumption)))
  generalize w.alloc (.cells #[.string key0, .int .i64 ep, .int .i64 most, .int .i64 node, .int .i64 place] 43) = W0 at *
  obtain ⟨B, hBB⟩ : ∃ B, w.heap.size = B := ⟨_, rfl⟩
  rw [hBB] at hK0 ⊢
  clear hBB
  refine (awake_calls _).mono ?_
  rintro e w1 ⟨rfl, hb⟩
  have HK := Lib.hid (hK0.gr hb)
  have HG := Lib.hid (hG0.tr hb)
  clear hb hK0 hG0
  go_wp2_with fail
  refine (Hfew1.out _ HG.out).mono ?_
  rintro e w2 ⟨vA, rfl, hrA, rfl⟩
  have HrA := Lib.hid hrA
  clear hrA Hfew1
  go_wp2_with fail
  refine (Hfew2.out _ HG.out).mono ?_
  rintro e w2 ⟨vB, rfl, hrB, rfl⟩
  have HrB := Lib.hid hrB
  have k0 := HK.out.1
  clear hrB Hfew2
  go_wp2_with fail
  refine (Hsh.out _).mono ?_
  rintro e w2 ⟨key, rfl, hkey, rfl⟩
  have hks : key.size ≤ 1000000 := by omega
  have k1 := HK.out.2.1
  clear Hsh hkey k0
  go_wp2_with fail
  refine (new_calls ep _ A w1 HrA.out (by omega)).mono ?_
  rintro e w3 ⟨p1, ps1, rfl, hps1, hrg1, hb⟩
  have HR1 := Lib.hid hrg1.rd
  have HK3 := Lib.hid (HK.out.gr hb)
  have HG3 := Lib.hid (HG.out.tr hb)
  have HA3 := Lib.hid (HrA.out.gr hb)
  have HB3 := Lib.hid (HrB.out.gr hb)
  clear hb hrg1 HK HG HrA HrB k1
  go_wp2_with fail
  refine (new_calls 0 _ Bl w3 HB3.out (by omega)).mono ?_
  rintro e w4 ⟨p2, ps2, rfl, hps2, hrg2, hb⟩
  have HR2 := Lib.hid hrg2.rd
  have HR1b := Lib.hid (HR1.out.gr hb)
  have HK4 := Lib.hid (HK3.out.gr hb)
  have HG4 := Lib.hid (HG3.out.tr hb)
  have HA4 := Lib.hid (HA3.out.gr hb)
  have HB4 := Lib.hid (HB3.out.gr hb)
  clear hb hrg2 HK3 HG3 HA3 HB3 HR1
  have hnlA : (nodesOf A).length ≤ 16 := nodesTo_len A 16
  have hnlB : (nodesOf Bl).length ≤ 16 := nodesTo_len Bl 16
  have hk1 : ps1.length ≤ 128 := by rw [hps1.len]; omega
  have hk2 : ps2.length ≤ 128 := by rw [hps2.len]; omega
  have HP1 := Lib.hid (fun (W : World) (hr : RD W p1 ep (nodesOf A) ps1) (m : Int) => prefer_calls p1 ep (nodesOf A) ps1 key m W hr hk1 hps1.2 hks)
  have HNc := Lib.hid (fun (W : World) (hr : RD W p1 ep (nodesOf A) ps1) => nodes_calls p1 ep (nodesOf A) ps1 W hr (by omega))
  have HEp := Lib.hid (fun (W : World) (hr : RD W p1 ep (nodesOf A) ps1) => epoch_calls p1 ep (nodesOf A) ps1 W hr)
  have HAt := Lib.hid (fun (W : World) (hr : RD W p1 ep (nodesOf A) ps1) (i : Int) => at_calls p1 ep (nodesOf A) ps1 i W hr (by omega))
  have HHo := Lib.hid (fun (W : World) (hr : RD W p1 ep (nodesOf A) ps1) (m n : Int) => holds_calls p1 ep (nodesOf A) ps1 key m n W hr hk1 hps1.2 hks)
  have HM := Lib.hid (fun (W : World) (hr1 : RD W p1 ep (nodesOf A) ps1) (hr2 : RD W p2 0 (nodesOf Bl) ps2) (m : Int) => moved_calls p1 p2 ep 0 (nodesOf A) (nodesOf Bl) ps1 ps2 key m W hr1 hr2 hk1 hk2 hps1.2 hps2.2 hks)
  have HrP1 := Lib.hid (fun (W : World) (h : rdRow W 1 vA A.length (encI A)) (m : Int) => rprefer_calls vA A key m W h (by omega) hks ps1 hps1)
  have HrP2 := Lib.hid (fun (W : World) (h : rdRow W 1 vB Bl.length (encI Bl)) (m : Int) => rprefer_calls vB Bl key m W h (by omega) hks ps2 hps2)
  obtain ⟨X, hX⟩ : ∃ X, prefer ps1 (hashS key) most = X := ⟨_, rfl⟩
  obtain ⟨Y, hY⟩ : ∃ Y, prefer ps2 (hashS key) most = Y := ⟨_, rfl⟩
  have HX := Lib.hid hX; have HY := Lib.hid hY
  have hXl : X.length ≤ 128 := by rw [← hX]; have := prefTo_len ps1 (hashS key) most ps1.length (Nat.le_refl _); unfold prefer; omega
  have hYl : Y.length ≤ 128 := by rw [← hY]; have := prefTo_len ps2 (hashS key) most ps2.length (Nat.le_refl _); unfold prefer; omega
  have Hps1 := Lib.hid hps1
  clear hps1 hps2 hX hY
  go_wp2_with fail
  refine (rpoints_calls vA A w4 HA4.out (by omega)).mono ?_
  rintro e w5 ⟨v5, qs, rfl, hq, ho5, hb⟩
  obtain rfl : ps1 = qs := isPts_unique Hps1.out hq
  obtain ⟨_, a5, c5, rfl, hc5, hcells⟩ := rdRow_of_own ho5
  have HR1c := Lib.hid (HR1b.out.gr hb)
  have HR2c := Lib.hid (HR2.out.gr hb)
  have HK5 := Lib.hid (HK4.out.gr hb)
  have HG5 := Lib.hid (HG4.out.tr hb)
  have HA5 := Lib.hid (HA4.out.gr hb)
  have HB5 := Lib.hid (HB4.out.gr hb)
  have Hcells := Lib.hid hcells
  have k4 := HK5.out.2.2.2.2
  clear hb hq ho5 hcells HR1b HR2 HK4 HG4 HA4 HB4 Hps1
  go_wp2_with fail
  refine (HAt.out _ HR1c.out place).mono ?_
  rintro e w6 ⟨rfl, hb⟩
  have HR1d := Lib.hid (HR1c.out.gr hb)
  have HR2d := Lib.hid (HR2c.out.gr hb)
  have HK6 := Lib.hid (HK5.out.gr hb)
  have HG6 := Lib.hid (HG5.out.tr hb)
  have HA6 := Lib.hid (HA5.out.gr hb)
  have HB6 := Lib.hid (HB5.out.gr hb)
  have Hb6 := Lib.hid hb
  have q4 := HK6.out.2.2.2.2
  have q2 := HK6.out.2.2.1
  obtain ⟨y, hy⟩ : ∃ y, atP ps1 place = y := ⟨_, rfl⟩
  rw [hy]
  have hcs : (0 ≤ place ∧ place < (ps1.length : Int) ∧ ∃ b o, a5 = some ⟨b, o, none⟩ ∧ w6.cell? ⟨b, o + place.toNat * 2, none⟩ = some (.int .u64 y.1) ∧ w6.cell? ⟨b, o + place.toNat * 2 + 1, none⟩ = some (.int .i64 y.2)) ∨ (place < 0 ∧ (y.1 != 0) = false ∧ (y.2 != -1) = false) ∨ (¬ place < 0 ∧ ¬ place < (ps1.length : Int) ∧ (y.1 != 0) = false ∧ (y.2 != -1) = false) := by
    rw [← hy]
    by_cases hneg : place < 0
    · have e : atP ps1 place = (0, -1) := by unfold atP; rw [if_neg (by omega)]
      rw [e]; exact .inr (.inl ⟨hneg, rfl, rfl⟩)
    · obtain ⟨j, rfl⟩ := Int.eq_ofNat_of_zero_le (Int.not_lt.1 hneg)
      by_cases hj : j < ps1.length
      · obtain ⟨b, o, e, hc⟩ := Hcells.out (by omega)
        refine .inl ⟨by omega, by omega, b, o, e, ?_, ?_⟩
        · rw [atP_get hj]; exact keepc hb (hc _ _ (encPs_get ps1 j hj).1)
        · rw [atP_get hj]
          have := keepc hb (hc _ _ (encPs_get ps1 j hj).2)
          rwa [← Nat.add_assoc] at this
      · rw [atP_all (by omega)]; exact .inr (.inr ⟨hneg, by omega, rfl, rfl⟩)
  have Hcs := Lib.hid hcs
  clear hy hcs
  clear hb k4 HR1c HR2c HK5 HG5 HA5 HB5
  rcases Hcs.out with ⟨g2, g1, b, o, e5, c0, c1⟩ | ⟨hn, f1, f2⟩ | ⟨hn, hn2, f1, f2⟩
  case' inl => subst e5
  all_goals
    clear Hcs
    go_wp2_with fail
    refine (HrP1.out _ HA6.out most).mono ?_
    rintro e w7 ⟨v7, rfl, ho7, hb⟩
    rw [HX.out] at ho7
    have R7 := Lib.hid (rdRow_of_own ho7)
    have HR1e := Lib.hid (HR1d.out.gr hb)
    have HR2e := Lib.hid (HR2d.out.gr hb)
    have HK7 := Lib.hid (HK6.out.gr hb)
    have HG7 := Lib.hid (HG6.out.tr hb)
    have HA7 := Lib.hid (HA6.out.gr hb)
    have HB7 := Lib.hid (HB6.out.gr hb)
    have q2b := HK7.out.2.2.1
    clear hb ho7 HR1d HR2d HK6 HG6 HA6 HB6 q2 q4 Hb6 Hcells
    go_wp2_with fail
    refine (HrP2.out _ HB7.out most).mono ?_
    rintro e w8 ⟨v8, rfl, ho8, hb⟩
    rw [HY.out] at ho8
    have R7b := Lib.hid (R7.out.gr hb)
    obtain ⟨a8, c8, e8, hc8, hcells8⟩ := rd_at (rdRow_of_own ho8)
    subst e8
    have Hcells8 := Lib.hid hcells8
    have HR1f := Lib.hid (HR1e.out.gr hb)
    have HR2f := Lib.hid (HR2e.out.gr hb)
    have HK8 := Lib.hid (HK7.out.gr hb)
    have HG8 := Lib.hid (HG7.out.tr hb)
    have HA8 := Lib.hid (HA7.out.gr hb)
    clear hb ho8 hcells8 HR1e HR2e HK7 HG7 HA7 HB7 q2b R7 hc8
    obtain ⟨i0, hi, hz0, hz1, hz2⟩ := info_parts infoInt
    have Hin := Lib.hid (fun (n : Int) (W : World) (hg : Gr w8 W) => in_calls v7 X n W (R7b.out.gr hg) (by omega))
    go_wp2_with fail
    go_loopw [18, 19, 20] (fun u a _ wr => ∃ j : Nat, j ≤ Y.length ∧ a = .int .i64 j ∧ wr.ownsRow w8.heap.size 3 1 u ((Y.take j).filter fun x => !decide (x ∈ X)).length (encI ((Y.take j).filter fun x => !decide (x ∈ X))) ∧ Gr w8 wr) (fun _ a _ _ => Y.length - (intOf a).toNat)
    case atStart => exact ⟨0, Nat.zero_le _, rfl, World.ownsRow_nil _ _ _ _, Gr.rfl'⟩
    case round =>
      obtain ⟨j, hj1, rfl, hown, hg⟩ := hrel
      obtain ⟨ua, uc, hu⟩ := own_slice hown
      subst hu
      have hgz := hg.size
      have htl : ((Y.take j).filter fun x => !decide (x ∈ X)).length ≤ 128 := by
        have := List.length_filter_le (fun x => !decide (x ∈ X)) (Y.take j)
        rw [List.length_take] at this; omega
      have Hown := Lib.hid hown; have Hg := Lib.hid hg
      clear hown hg
      by_cases hlt : j < Y.length
      · obtain ⟨b, o, rfl, hc⟩ := Hcells8.out (by omega)
        have c0 := keepc Hg.out (hc j hlt)
        have Hsu := Lib.hid (List.take_succ_eq_append_getElem hlt)
        have g1 : (j : Int) < Y.length := by omega
        have g2 : (0 : Int) ≤ j := by omega
        clear hc
        generalize Y[j] = x at *
        by_cases hm : x ∈ X
        · have hd : decide (x ∈ X) = true := decide_eq_true hm
          have Hm := Lib.hid hm
          clear hm
          go_wp2_with fail
          refine (Hin.out _ _ Hg.out).mono ?_
          rintro e w9 ⟨rfl, rfl⟩
          rw [hd]
          go_wp2_with fail
          go_roundw
          case rel => exact ⟨j + 1, by omega, by go_num, by rw [Hsu.out, List.filter_append, List.filter_cons_of_neg (by simp [Hm.out]), List.filter_nil, List.append_nil]; exact Hown.out, Hg.out⟩
          case measure => simp [intOf]; omega
        · have hd : decide (x ∈ X) = false := decide_eq_false hm
          have Hm := Lib.hid hm
          clear hm
          go_wp2_with fail
          refine (Hin.out _ _ Hg.out).mono ?_
          rintro e w9 ⟨rfl, rfl⟩
          rw [hd]
          go_wp2_with (at_builtin; refine wpList_append_own _ rfl _ _ 27 rfl w8.heap.size 3 i0 _ 1 8 Try.underlying27 hi hz0 hz1 hz2 rfl (by decide) _ _ _ rfl (Hown.out.alloc _) ⟨wr.heap.size, 0, none⟩ 1 1 [.int .i64 x] rfl rfl (World.news_of_block (heap_alloc_new wr _)) (by intro u hu; simp only [List.mem_cons, List.not_mem_nil, or_false] at hu; subst hu; rfl) (by unfold maxLen; omega) (by omega) (by simp; omega) ?_; intro v3 w9 hown3 hgrow3 _)
          go_roundw
          case rel => exact ⟨j + 1, by omega, by go_num, by rw [Hsu.out, List.filter_append, List.filter_cons_of_pos (by simp [Hm.out]), List.filter_nil]; exact own_cast hown3 (by simp) (by rw [encI_snoc]), gr_gb (Gr.al Hg.out _) hgrow3 (fun j hj => (Hown.out.lt j hj).1)⟩
          case measure => simp [intOf]; omega
      · obtain rfl : j = Y.length := by omega
        have hT := Hown.out
        rw [List.take_length] at hT htl ⊢
        obtain ⟨T, hTT⟩ : ∃ T, (Y.filter fun x => !decide (x ∈ X)) = T := ⟨_, rfl⟩
        rw [hTT] at hT htl ⊢
        have HTT := Lib.hid hTT
        have RT := Lib.hid (rdRow_of_own hT)
        have HR1g := Lib.hid (HR1f.out.gr Hg.out)
        have HR2g := Lib.hid (HR2f.out.gr Hg.out)
        have HK9 := Lib.hid (HK8.out.gr Hg.out)
        have HG9 := Lib.hid (HG8.out.tr Hg.out)
        have HA9 := Lib.hid (HA8.out.gr Hg.out)
        have R79 := Lib.hid (R7b.out.gr Hg.out)
        clear hT hTT Hown Hg HR1f HR2f HK8 HG8 HA8 R7b Hcells8 Hin hgz
        go_wp2_with fail
        refine (HNc.out _ HR1g.out).mono ?_
        rintro e w10 ⟨v10, rfl, ho, hb⟩
        have R10 := Lib.hid (rdRow_of_own ho)
        have HR1h := Lib.hid (HR1g.out.gr hb); have HR2h := Lib.hid (HR2g.out.gr hb); have HK10 := Lib.hid (HK9.out.gr hb); have HG10 := Lib.hid (HG9.out.tr hb); have HA10 := Lib.hid (HA9.out.gr hb); have R710 := Lib.hid (R79.out.gr hb); have RT10 := Lib.hid (RT.out.gr hb)
        clear ho hb HR1g HR2g HK9 HG9 HA9 R79 RT
        go_wp2_with fail
        refine (rnodes_calls _ A _ HA10.out (by omega)).mono ?_
        rintro e w11 ⟨v11, rfl, ho, hb⟩
        have hs1 := Lib.hid (same_calls v10 v11 (nodesOf A) (nodesOf A) w11 (R10.out.gr hb) (rdRow_of_own ho) (by omega))
        have HR1i := Lib.hid (HR1h.out.gr hb); have HR2i := Lib.hid (HR2h.out.gr hb); have HK11 := Lib.hid (HK10.out.gr hb); have HG11 := Lib.hid (HG10.out.tr hb); have R711 := Lib.hid (R710.out.gr hb); have RT11 := Lib.hid (RT10.out.gr hb)
        clear ho hb HR1h HR2h HK10 HG10 HA10 R710 RT10 R10
        go_wp2_with fail
        refine hs1.out.mono ?_
        rintro e w12 ⟨rfl, hb⟩
        first | rw [decide_eq_true rfl] | simp only [decide_true]
        have HR1j := Lib.hid (HR1i.out.gr hb); have HR2j := Lib.hid (HR2i.out.gr hb); have HK12 := Lib.hid (HK11.out.gr hb); have HG12 := Lib.hid (HG11.out.tr hb); have R712 := Lib.hid (R711.out.gr hb); have RT12 := Lib.hid (RT11.out.gr hb)
        have q2 := HK12.out.2.2.1
        clear hb HR1i HR2i HK11 HG11 R711 RT11 hs1
        go_wp2_with fail
        refine (HP1.out _ HR1j.out most).mono ?_
        rintro e w13 ⟨v13, rfl, ho, hb⟩
        rw [HX.out] at ho
        have hs1 := Lib.hid (same_calls v13 v7 X X w13 (rdRow_of_own ho) (R712.out.gr hb) (by omega))
        have HR1k := Lib.hid (HR1j.out.gr hb); have HR2k := Lib.hid (HR2j.out.gr hb); have HK13 := Lib.hid (HK12.out.gr hb); have HG13 := Lib.hid (HG12.out.tr hb); have R713 := Lib.hid (R712.out.gr hb); have RT13 := Lib.hid (RT12.out.gr hb)
        clear ho hb HR1j HR2j HK12 HG12 R712 RT12 q2
        go_wp2_with fail
        refine hs1.out.mono ?_
        rintro e w14 ⟨rfl, hb⟩
        first | rw [decide_eq_true rfl] | simp only [decide_true]
        have HR1l := Lib.hid (HR1k.out.gr hb); have HR2l := Lib.hid (HR2k.out.gr hb); have HK14 := Lib.hid (HK13.out.gr hb); have HG14 := Lib.hid (HG13.out.tr hb); have R714 := Lib.hid (R713.out.gr hb); have RT14 := Lib.hid (RT13.out.gr hb)
        have q2 := HK14.out.2.2.1
        clear hb HR1k HR2k HK13 HG13 R713 RT13 hs1
        go_wp2_with fail
        refine (HM.out _ HR1l.out HR2l.out most).mono ?_
        rintro e w15 ⟨v15, rfl, ho, hb⟩
        rw [HX.out, HY.out, HTT.out] at ho
        have hs1 := Lib.hid (same_calls v15 _ T T w15 ho (RT14.out.gr hb) (by omega))
        have HR1m := Lib.hid (HR1l.out.gr hb); have HK15 := Lib.hid (HK14.out.gr hb); have HG15 := Lib.hid (HG14.out.tr hb); have R715 := Lib.hid (R714.out.gr hb)
        clear ho hb HR1l HR2l HK14 HG14 R714 RT14 q2
        go_wp2_with fail
        refine hs1.out.mono ?_
        rintro e w16 ⟨rfl, hb⟩
        first | rw [decide_eq_true rfl] | simp only [decide_true]
        have HR1n := Lib.hid (HR1m.out.gr hb); have HK16 := Lib.hid (HK15.out.gr hb); have HG16 := Lib.hid (HG15.out.tr hb); have R716 := Lib.hid (R715.out.gr hb)
        clear hb HR1m HK15 HG15 R715 hs1
        have cw1 := fun g : GrW w16 => (HK16.out.gr g.h).2.1
        have cw2 := fun g : GrW w16 => (HK16.out.gr g.h).2.2.1
        have cw3 := fun g : GrW w16 => (HK16.out.gr g.h).2.2.2.1
        have Hho := Lib.hid (fun (g : GrW w16) => HHo.out g.w (HR1n.out.gr g.h) most node)
        have Hi := Lib.hid (fun (g : GrW w16) => in_calls v7 X node g.w (R716.out.gr g.h) (by omega))
        have He := Lib.hid (fun (g : GrW w16) => HEp.out g.w (HR1n.out.gr g.h))
        rw [HX.out] at Hho
        go_upto_region 26 with fail
        (refine region_gr (by kernel_rfl) (by kernel_rfl) ?_; (repeat (go_big_quiet_step ((first | (go_at_call 23; rename_i g9; refine (He.out g9).mono ?_; rintro e w2 ⟨rfl, hb⟩; exact ⟨rfl, g9, hb.symm⟩) | (go_at_call 24; rename_i g9; refine (Hho.out g9).mono ?_; rintro e w2 ⟨rfl, hb⟩; exact ⟨rfl, ⟨w2, g9.h.tr hb⟩, rfl⟩) | (go_at_call 22; rename_i g9; refine (Hi.out g9).mono ?_; rintro e w2 ⟨rfl, hb⟩; exact ⟨rfl, g9, hb.symm⟩))))); refine wpQuiet_nil ?_; intro wq hw9; obtain ⟨g9, e9⟩ := hw9; have hwq := g9.h; rw [← e9] at hwq; clear e9 g9)
        go_wp2_with fail
        go_ret
        exact ⟨ret_b rfl (by simp), HG16.out.tr hwq⟩
end Go.Proofs.Ytomhdkppgfcaaaa

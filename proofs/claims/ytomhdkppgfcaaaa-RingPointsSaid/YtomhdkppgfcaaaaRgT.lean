/- The ring: RingPoints. -/
import Derived.Test.YtomhdkppgfcaaaaRgS
import Derived.Test.YtomhdkppgfcaaaaRgN
import Derived.Test.YtomhdkppgfcaaaaRgM
namespace Go.Proofs.Ytomhdkppgfcaaaa
open Go.RowKit

/-- The counts: sixteen cells. -/
def Cnt (w : World) (B : Nat) (f : Int → Int) : Prop := ∀ m : Nat, m < 16 → w.cell? ⟨B, m, none⟩ = some (.int .i64 (f m)) ∧ w.frozen? ⟨B, m, none⟩ = false
theorem Cnt.set {w : World} {B : Nat} {f g : Int → Int} (h : Cnt w B f) {m : Nat} (x : Int) (hx : g m = x) (hg : ∀ k : Nat, k ≠ m → g k = f k) : Cnt (w.setCell ⟨B, m, none⟩ (.int .i64 x)) B g := by
  intro k hk
  rw [World.frozen?_setCell]
  refine ⟨?_, (h k hk).2⟩
  by_cases e : k = m
  · subst e; rw [World.cell?_setCell_same _ _ _ (h k hk).1, hx]
  · rw [World.cell?_setCell_other _ ⟨B, m, none⟩ ⟨B, k, none⟩ _ (by intro q; injection q with _ q2; omega), (h k hk).1, hg k e]
theorem Cnt.gr {w w1 : World} {B : Nat} {f : Int → Int} (h : Cnt w B f) (hg : Gr w w1) : Cnt w1 B f := fun m hm => ⟨keepc hg (h m hm).1, keepf hg (h m hm).1 (h m hm).2⟩

set_option maxRecDepth 100000 in
set_option maxHeartbeats 3000000 in
theorem points_law (v0 : Value) (l : List Int) (key0 : ByteArray) (w : World) (h0 : rdRow w 1 v0 l.length (encI l)) (hl : l.length ≤ maxLen) :
    Calls Try.prog 5 #[v0, .string key0] w fun e w' => e = .returned (.bool true) ∧ Gr w w' := by
  have hfew := few_calls v0 l
  have hA : (l.take 12).length ≤ 12 := by simp; omega
  generalize l.take 12 = A at *
  have Hfew := Lib.hid (fun W hg => hfew W (h0.gr hg) hl)
  obtain ⟨va0, vc0, rfl⟩ : ∃ a c, v0 = .slice a l.length c := by obtain ⟨_, a, c, e, _⟩ := h0; exact ⟨a, c, e⟩
  have hsh := fun W => short_calls key0 100 (by decide) W
  clear hfew h0 hl
  go_enter Try.func5, Try.ntmps5
  go_wp2_with fail
  refine (awake_calls _).mono ?_
  rintro e w1 ⟨rfl, hG⟩
  go_wp2_with fail
  refine (Hfew.out _ hG).mono ?_
  rintro e w2 ⟨vA, rfl, hrA, rfl⟩
  clear Hfew
  go_wp2_with fail
  refine (hsh _).mono ?_
  rintro e w2 ⟨key, rfl, hkey, rfl⟩
  have hks : key.size ≤ 1000000 := by omega
  clear hsh hkey
  have hn1 := new_calls 1 _ A w1 hrA (by omega)
  obtain ⟨aA, cA, rfl, _, _⟩ := rd_at hrA
  clear hrA
  go_wp2_with fail
  refine hn1.mono ?_
  rintro e w3 ⟨p1, ps, rfl, hps, hrg1, hb⟩
  have hR1 := hrg1.rd
  have hG3 := hG.tr hb
  clear hb hn1 hrg1 hG
  have hnl : (nodesOf A).length ≤ 16 := nodesTo_len A 16
  have hpl := hps.len
  have hk8 : ps.length ≤ 128 := by omega
  have Hps := Lib.hid hps
  have HP := Lib.hid (fun (W : World) (hr : RD W p1 1 (nodesOf A) ps) => prefer_calls p1 1 (nodesOf A) ps key 1 W hr hk8 hps.2 hks)
  have HNc := Lib.hid (fun (W : World) (h1 : RD W p1 1 (nodesOf A) ps) => nodes_calls p1 1 (nodesOf A) ps W h1 (by omega))
  have HAt := Lib.hid (fun (i : Int) (W : World) (h1 : RD W p1 1 (nodesOf A) ps) => at_calls p1 1 (nodesOf A) ps i W h1 (by omega))
  obtain ⟨h, hh⟩ : ∃ h, hashS key = h := ⟨_, rfl⟩
  have Hh := Lib.hid hh
  clear hps hh
  go_wp2_with fail
  refine (hash_calls key hks _).mono ?_
  rintro e w5 ⟨rfl, hw5⟩
  rw [Hh.out]
  have hc0 : Cnt w5 w3.heap.size (manyTo ps 0) := by
    rw [← hw5]
    intro m hm
    rw [manyTo_zero]
    have hc := cell_of_row (w3.alloc (.cells #[.int .i64 0, .int .i64 0, .int .i64 0, .int .i64 0, .int .i64 0, .int .i64 0, .int .i64 0, .int .i64 0, .int .i64 0, .int .i64 0, .int .i64 0, .int .i64 0, .int .i64 0, .int .i64 0, .int .i64 0, .int .i64 0] 35)) w3.heap.size m _ _ _ (heap_alloc_new w3 _)
    have hf := frozen_of_row (w3.alloc (.cells #[.int .i64 0, .int .i64 0, .int .i64 0, .int .i64 0, .int .i64 0, .int .i64 0, .int .i64 0, .int .i64 0, .int .i64 0, .int .i64 0, .int .i64 0, .int .i64 0, .int .i64 0, .int .i64 0, .int .i64 0, .int .i64 0] 35)) w3.heap.size m _ _ (heap_alloc_new w3 _)
    rcases (by omega : m = 0 ∨ m = 1 ∨ m = 2 ∨ m = 3 ∨ m = 4 ∨ m = 5 ∨ m = 6 ∨ m = 7 ∨ m = 8 ∨ m = 9 ∨ m = 10 ∨ m = 11 ∨ m = 12 ∨ m = 13 ∨ m = 14 ∨ m = 15) with rfl | rfl | rfl | rfl | rfl | rfl | rfl | rfl | rfl | rfl | rfl | rfl | rfl | rfl | rfl | rfl <;> exact ⟨hc, hf⟩
  have hR5 : RD w5 p1 1 (nodesOf A) ps := hR1.gr (by rw [← hw5]; (repeat (first | exact Gr.rfl' | refine Gr.al ?_ _ | refine Gr.dr ?_ | refine Gr.drN ?_ | refine Gr.sc ?_ (by simp <;> omega) _ | refine Gr.tr ?_ (by assumption))))
  have hG5 : Gr w3 w5 := by rw [← hw5]; (repeat (first | exact Gr.rfl' | refine Gr.al ?_ _ | refine Gr.dr ?_ | refine Gr.drN ?_ | refine Gr.sc ?_ (by simp <;> omega) _ | refine Gr.tr ?_ (by assumption)))
  have hz5 : w3.heap.size < w5.heap.size := by rw [← hw5]; simp
  obtain ⟨B, hB⟩ : ∃ B, w3.heap.size = B := ⟨_, rfl⟩
  rw [hB] at hc0 hz5 ⊢
  clear hw5
  go_wp2_with fail
  refine (HNc.out _ hR5).mono ?_
  rintro e w6 ⟨v6, rfl, ho6, hb⟩
  have hR6 := hR5.gr hb
  have hG6 := hG5.tr hb
  have hc6 := hc0.gr hb
  obtain ⟨a6, c6, rfl⟩ := own_slice ho6
  have hBz : w3.heap.size ≤ B := by omega
  clear ho6 hb hR5 hc0 hG5 hz5 hB
  have hnl9 : ((nodesOf A).length : Int) ≤ 16 := by omega
  have hnl0 : (0 : Int) ≤ ((nodesOf A).length : Int) := by omega
  go_wp2_with fail
  have hG6' := hG3.tr hG6
  go_loopw [9, 10, 13, 14, 15] (fun a f i _ _ wr => ∃ j : Nat, j ≤ ps.length ∧ a = .int .u64 (lastTo ps j) ∧ f = .int .i64 (firstTo ps h j) ∧ i = .int .i64 j ∧ Cnt wr B (manyTo ps j) ∧ Gr w3 wr) (fun _ _ i _ _ _ => ps.length - (intOf i).toNat)
  case atStart => exact ⟨0, Nat.zero_le _, rfl, by rw [firstTo_zero], rfl, hc6, hG6⟩
  case round =>
    obtain ⟨j, hj, rfl, rfl, rfl, hc, hg⟩ := hrel
    have hR := hR1.gr hg
    have Hc := Lib.hid hc; have Hg := Lib.hid hg
    clear hc hg hc6 hG6 hG6' hR6
    by_cases hlt : j < ps.length
    · have hat := HAt.out j wr hR
      rw [atP_get hlt] at hat
      have hx := pts_nn Hps.out (List.getElem_mem hlt)
      have hxm := mem_nodesOf.1 hx.2
      have hla := lastTo_le Hps.out hlt
      have Hls := Lib.hid (lastTo_succ hlt)
      have Hms := Lib.hid (manyTo_succ hlt)
      have hfn := firstTo_neg Hps.out (h := h) (Nat.le_of_lt hlt)
      have Hst := Lib.hid (fun hl => firstTo_stay (ps := ps) (h := h) (j := j) hl)
      have Hhit := Lib.hid (fun hl hh => firstTo_hit Hps.out.2 (h := h) hlt hl hh)
      have Hmiss := Lib.hid (fun hl hh => firstTo_miss Hps.out.2 (h := h) hlt hl hh)
      obtain ⟨n, hn⟩ : ∃ n : Nat, (ps[j]).2 = n := ⟨((ps[j]).2).toNat, by omega⟩
      have hn16 : n < 16 := by omega
      rw [hn] at hat
      have Hn := Lib.hid hn
      have h0x := hx.1
      generalize hxx : (ps[j]).1 = x at *
      generalize hll : lastTo ps j = la at *
      generalize hff : firstTo ps h j = fi at *
      have Hll := Lib.hid hll; have Hff := Lib.hid hff
      clear hx hxm hn hxx hll hff
      have g1 : (j : Int) < ps.length := by omega
      have g2 : ¬ ((n : Int) < 0) := by omega
      have g3 : ¬ (15 < (n : Int)) := by omega
      have g4 : ¬ (x < la) := by omega
      have g5 : (0 : Int) ≤ n := by omega
      have g6 : (n : Int) < 16 := by omega
      have hwn := (manyTo_le ps j n)
      go_wp2_with fail
      refine hat.mono ?_
      rintro e w7 ⟨rfl, hb⟩
      have hcn := Hc.out.gr hb
      have cn := (hcn n hn16).1
      have fn := (hcn n hn16).2
      have Hcn := Lib.hid hcn
      have Hb := Lib.hid hb
      clear hcn hb hat
      generalize hmm : manyTo ps j n = mm at *
      have Hmm := Lib.hid hmm
      clear hmm
      have g7 : mm + 1 ≤ 9223372036854775807 := by omega
      have g8 : -9223372036854775808 ≤ mm + 1 := by omega
      have hcs : (¬ fi < 0 ∧ firstTo ps h (j + 1) = fi) ∨ (fi < 0 ∧ h ≤ x ∧ firstTo ps h (j + 1) = n) ∨ (fi < 0 ∧ ¬ h ≤ x ∧ firstTo ps h (j + 1) = fi) := by
        rcases hfn with ⟨h1, h2⟩ | ⟨h1, h2⟩
        · by_cases h3 : h ≤ x
          · exact .inr (.inl ⟨h1, h3, by rw [Hhit.out h2 h3]; exact Hn.out⟩)
          · refine .inr (.inr ⟨h1, h3, ?_⟩)
            rw [Hmiss.out h2 (by omega), ← Hff.out]
            exact (if_neg (show ¬ lo ps h < j by omega)).symm
        · exact .inl ⟨by omega, by rw [Hst.out h2]⟩
      clear hfn
      rcases hcs with ⟨k1, kk⟩ | ⟨k1, k2, kk⟩ | ⟨k1, k2, kk⟩
      all_goals
        have Hk := Lib.hid kk
        clear kk
        go_wp2_with fail
        go_roundw
        case rel => exact ⟨j + 1, by omega, by rw [Hls.out], by rw [Hk.out], by go_num, Hcn.out.set _ (by rw [Hms.out, Hn.out, if_pos rfl, Hmm.out]) (fun k hk => by rw [Hms.out, Hn.out, if_neg (by omega)]; omega), Gr.sc (Hg.out.tr Hb.out) (by exact hBz) _⟩
        case measure => simp [intOf]; omega
    · obtain rfl : j = ps.length := by omega
      have hat := HAt.out (((nodesOf A).length : Int) * 8) wr hR
      rw [atP_all (by omega)] at hat
      have hat0 := HAt.out 0
      have hfn := firstTo_neg Hps.out (h := h) (Nat.le_refl _)
      have hF : (firstTo ps h ps.length < 0 ∧ (atP ps 0).2 = behind ps h) ∨ (¬ firstTo ps h ps.length < 0 ∧ firstTo ps h ps.length = behind ps h) := by
        rcases hfn with ⟨h1, h2⟩ | ⟨h1, h2⟩
        · left; exact ⟨h1, by unfold behind; rw [if_neg (by omega)]⟩
        · right; exact ⟨h1, by unfold behind firstTo; rw [if_pos h2, if_pos h2]⟩
      have Hat0 := Lib.hid hat0
      have hj : ¬ ((ps.length : Int) < ((nodesOf A).length : Int) * 8) := by omega
      generalize hff : firstTo ps h ps.length = fi at *
      generalize lastTo ps ps.length = la at *
      have Hpo := Lib.hid (fun (h0 : 0 < ps.length) => prefer_one (ps := ps) h h0)
      have Hpn := Lib.hid (fun (h0 : ps.length = 0) => (by rw [List.length_eq_zero_iff.1 h0]; exact pref_none : prefer ps h 1 = []))
      clear hfn hff hat0
      obtain ⟨F, hFF⟩ : ∃ F, behind ps h = F := ⟨_, rfl⟩
      rw [hFF] at hF
      have HFF := Lib.hid hFF
      clear hFF
      go_wp2_with fail
      refine hat.mono ?_
      rintro e w7 ⟨rfl, hb⟩
      replace Hc := Lib.hid (Hc.out.gr hb)
      replace hR := hR.gr hb
      replace Hg := Lib.hid (Hg.out.tr hb)
      clear hat hb
      rcases hF with ⟨k1, k2⟩ | ⟨k1, k2⟩
      · go_wp2_with fail
        refine (Hat0.out _ hR).mono ?_
        rintro e w8 ⟨rfl, hb⟩
        replace Hc := Lib.hid (Hc.out.gr hb)
        replace hR := hR.gr hb
        replace Hg := Lib.hid (Hg.out.tr hb)
        rw [k2]
        clear hb k2
        generalize (atP ps 0).1 = a0
        go_wp2_with fail
        refine (HNc.out _ hR).mono ?_
        rintro e w9 ⟨v9, rfl, ho, hb⟩
        replace hR := hR.gr hb
        replace Hg := Lib.hid (Hg.out.tr hb)
        have hrd := rdRow_of_own ho
        obtain ⟨a9, c9, rfl⟩ := own_slice ho
        obtain ⟨a', c', e9, hc9, hcells⟩ := rd_at hrd
        cases e9
        have Hcells := Lib.hid hcells
        replace Hc := Lib.hid (Hc.out.gr hb)
        have hR9 := Lib.hid hR
        have Hmem := Lib.hid (fun (k : Nat) (hk : k < (nodesOf A).length) => mem_nodesOf.1 (List.getElem_mem hk))
        have Hall := Lib.hid (fun (k : Nat) (hk : k < (nodesOf A).length) => manyTo_all Hps.out (List.getElem_mem hk))
        clear ho hb hrd hcells hR hR1
        go_wp2_with fail
        go_loopw [19] (fun i wx => ∃ k : Nat, k ≤ (nodesOf A).length ∧ i = .int .i64 k ∧ w9 = wx) (fun i _ => (nodesOf A).length - (intOf i).toNat)
        case atStart => exact ⟨0, Nat.zero_le _, rfl, rfl⟩
        case round =>
          obtain ⟨k, hk, rfl, rfl⟩ := hrel
          by_cases hlt : k < (nodesOf A).length
          · obtain ⟨b, o, rfl, hcl⟩ := Hcells.out (by omega)
            have c0 := hcl k hlt
            have hme := Hmem.out k hlt
            obtain ⟨m, hm⟩ : ∃ m : Nat, (nodesOf A)[k] = m := ⟨((nodesOf A)[k]).toNat, by omega⟩
            have hcm := (Hc.out m (by omega)).1
            rw [← hm, Hall.out k hlt] at hcm
            rw [hm] at c0
            have g1 : (k : Int) < (nodesOf A).length := by omega
            have g2 : (0 : Int) ≤ k := by omega
            have g5 : (0 : Int) ≤ m := by omega
            have g6 : (m : Int) < 16 := by omega
            clear hcl hme hm
            go_wp2_with fail
            go_roundw
            case rel => exact ⟨k + 1, by omega, by go_num, trivial⟩
            case measure => simp [intOf]; omega
          · obtain rfl : k = (nodesOf A).length := by omega
            have hpr := HP.out _ hR9.out
            rw [Hh.out] at hpr
            by_cases h0 : 0 < ps.length
            · rw [Hpo.out h0, HFF.out] at hpr
              have g3 : ¬ (nodesOf A).length = 0 := by omega
              have Hpr := Lib.hid hpr
              clear hpr
              go_wp2_with fail
              refine Hpr.out.mono ?_
              rintro e w10 ⟨v10, rfl, ho, hb⟩
              have hrd := rdRow_of_own ho
              obtain ⟨a', c', e9, hc10, hcells⟩ := rd_at hrd
              obtain ⟨b, o, rfl, hcl⟩ := hcells (by simp)
              subst e9
              have c0 := hcl 0 (by simp)
              have g4 : ((nodesOf A).length == 0) = false := by simpa using g3
              simp only [List.getElem_cons_zero, List.length_singleton, Nat.add_zero] at c0 hc10
              have HG := Lib.hid (Hg.out.tr hb)
              clear ho hb hrd hcells hcl
              go_wp2_with fail
              go_ret
              exact ⟨rfl, hG3.tr HG.out⟩
            · have h00 : ps.length = 0 := by omega
              rw [Hpn.out h00] at hpr
              have g3 : (nodesOf A).length = 0 := by omega
              have Hpr := Lib.hid hpr
              clear hpr
              go_wp2_with fail
              refine Hpr.out.mono ?_
              rintro e w10 ⟨v10, rfl, ho, hb⟩
              obtain ⟨a10, c10, rfl⟩ := own_slice ho
              have HG := Lib.hid (Hg.out.tr hb)
              clear ho hb
              go_wp2_with fail
              go_ret
              exact ⟨rfl, hG3.tr HG.out⟩
      · have k3 : ¬ F < 0 := by omega
        rw [k2]
        clear k1 k2
        go_wp2_with fail
        refine (HNc.out _ hR).mono ?_
        rintro e w9 ⟨v9, rfl, ho, hb⟩
        replace hR := hR.gr hb
        replace Hg := Lib.hid (Hg.out.tr hb)
        have hrd := rdRow_of_own ho
        obtain ⟨a9, c9, rfl⟩ := own_slice ho
        obtain ⟨a', c', e9, hc9, hcells⟩ := rd_at hrd
        cases e9
        have Hcells := Lib.hid hcells
        replace Hc := Lib.hid (Hc.out.gr hb)
        have hR9 := Lib.hid hR
        have Hmem := Lib.hid (fun (k : Nat) (hk : k < (nodesOf A).length) => mem_nodesOf.1 (List.getElem_mem hk))
        have Hall := Lib.hid (fun (k : Nat) (hk : k < (nodesOf A).length) => manyTo_all Hps.out (List.getElem_mem hk))
        clear ho hb hrd hcells hR hR1
        go_wp2_with fail
        go_loopw [19] (fun i wx => ∃ k : Nat, k ≤ (nodesOf A).length ∧ i = .int .i64 k ∧ w9 = wx) (fun i _ => (nodesOf A).length - (intOf i).toNat)
        case atStart => exact ⟨0, Nat.zero_le _, rfl, rfl⟩
        case round =>
          obtain ⟨k, hk, rfl, rfl⟩ := hrel
          by_cases hlt : k < (nodesOf A).length
          · obtain ⟨b, o, rfl, hcl⟩ := Hcells.out (by omega)
            have c0 := hcl k hlt
            have hme := Hmem.out k hlt
            obtain ⟨m, hm⟩ : ∃ m : Nat, (nodesOf A)[k] = m := ⟨((nodesOf A)[k]).toNat, by omega⟩
            have hcm := (Hc.out m (by omega)).1
            rw [← hm, Hall.out k hlt] at hcm
            rw [hm] at c0
            have g1 : (k : Int) < (nodesOf A).length := by omega
            have g2 : (0 : Int) ≤ k := by omega
            have g5 : (0 : Int) ≤ m := by omega
            have g6 : (m : Int) < 16 := by omega
            clear hcl hme hm
            go_wp2_with fail
            go_roundw
            case rel => exact ⟨k + 1, by omega, by go_num, trivial⟩
            case measure => simp [intOf]; omega
          · obtain rfl : k = (nodesOf A).length := by omega
            have hpr := HP.out _ hR9.out
            rw [Hh.out] at hpr
            by_cases h0 : 0 < ps.length
            · rw [Hpo.out h0, HFF.out] at hpr
              have g3 : ¬ (nodesOf A).length = 0 := by omega
              have Hpr := Lib.hid hpr
              clear hpr
              go_wp2_with fail
              refine Hpr.out.mono ?_
              rintro e w10 ⟨v10, rfl, ho, hb⟩
              have hrd := rdRow_of_own ho
              obtain ⟨a', c', e9, hc10, hcells⟩ := rd_at hrd
              obtain ⟨b, o, rfl, hcl⟩ := hcells (by simp)
              subst e9
              have c0 := hcl 0 (by simp)
              have g4 : ((nodesOf A).length == 0) = false := by simpa using g3
              simp only [List.getElem_cons_zero, List.length_singleton, Nat.add_zero] at c0 hc10
              have HG := Lib.hid (Hg.out.tr hb)
              clear ho hb hrd hcells hcl
              go_wp2_with fail
              go_ret
              exact ⟨rfl, hG3.tr HG.out⟩
            · have h00 : ps.length = 0 := by omega
              rw [Hpn.out h00] at hpr
              have g3 : (nodesOf A).length = 0 := by omega
              have Hpr := Lib.hid hpr
              clear hpr
              go_wp2_with fail
              refine Hpr.out.mono ?_
              rintro e w10 ⟨v10, rfl, ho, hb⟩
              obtain ⟨a10, c10, rfl⟩ := own_slice ho
              have HG := Lib.hid (Hg.out.tr hb)
              clear ho hb
              go_wp2_with fail
              go_ret
              exact ⟨rfl, hG3.tr HG.out⟩
end Go.Proofs.Ytomhdkppgfcaaaa

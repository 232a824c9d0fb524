/- The ring: RingOrder. -/
import Derived.Test.YtomhdkppgfcaaaaRgQ
import Derived.Test.YtomhdkppgfcaaaaRgM
namespace Go.Proofs.Ytomhdkppgfcaaaa
open Go.RowKit

set_option maxRecDepth 100000 in
set_option maxHeartbeats 3000000 in
theorem order_law (v0 : Value) (l : List Int) (key0 : ByteArray) (most : Int) (w : World) (h0 : rdRow w 1 v0 l.length (encI l)) (hl : l.length ≤ maxLen) :
    Calls Try.prog 6 #[v0, .string key0, .int .i64 most] w fun e w' => e = .returned (.bool true) ∧ Gr w w' := by
  have hfew := few_calls v0 l
  have hA : (l.take 12).length ≤ 12 := by simp; omega
  generalize l.take 12 = A at *
  have Hfew := Lib.hid (fun W hg => hfew W (h0.gr hg) hl)
  obtain ⟨va0, vc0, rfl⟩ : ∃ a c, v0 = .slice a l.length c := by obtain ⟨_, a, c, e, _⟩ := h0; exact ⟨a, c, e⟩
  have hsh := fun W => short_calls key0 100 (by decide) W
  clear hfew h0 hl
  obtain ⟨i0, hi, hz0, hz1, hz2⟩ := info_parts infoInt
  go_enter Try.func6, Try.ntmps6
  go_wp2_with fail
  refine (awake_calls _).mono ?_
  rintro e w1 ⟨rfl, hG⟩
  go_wp2_with fail
  refine (Hfew.out _ hG).mono ?_
  rintro e w2 ⟨vA, rfl, hrA, rfl⟩
  clear Hfew
  go_wp2_with fail
  refine (hsh _).mono ?_
  rintro e w2 ⟨key, rfl, hkey, rfl⟩
  have hks : key.size ≤ 1000000 := by omega
  clear hsh hkey
  have hrA0 := hrA
  obtain ⟨aA, cA, rfl, hcA, hcells⟩ := rd_at hrA
  have HA := Lib.hid hcells
  have HrA := Lib.hid hrA0
  clear hrA hcells hrA0
  go_wp2_with fail
  go_loopw [9, 10] (fun u v wr => ∃ j : Nat, j ≤ A.length ∧ v = .int .i64 ((j : Int) - 1) ∧ (∃ t : List Int, t.length = 2 * (A.length - j) ∧ (∀ x, x ∈ t ↔ x ∈ A.drop j) ∧ wr.ownsRow w1.heap.size 3 1 u t.length (encI t)) ∧ Gr w1 wr) (fun _ v _ => ((intOf v) + 1).toNat)
  case atStart => exact ⟨A.length, Nat.le_refl _, rfl, ⟨[], by simp, by simp, World.ownsRow_nil _ _ _ _⟩, Gr.rfl'⟩
  case round =>
    obtain ⟨j, hj1, rfl, ⟨t, htl, htm, hown⟩, hg⟩ := hrel
    have hgz := hg.size
    obtain ⟨ua, uc, hu⟩ := own_slice hown
    subst hu
    have htb : t.length ≤ 24 := by omega
    have Htl := Lib.hid htl
    clear htl
    by_cases hj : 0 < j
    · obtain ⟨k, rfl⟩ : ∃ k, j = k + 1 := ⟨j - 1, by omega⟩
      have hk : k < A.length := by omega
      have e1 : ((k + 1 : Nat) : Int) - 1 = (k : Int) := by omega
      obtain ⟨b, o, rfl, hc⟩ := HA.out (by omega)
      have c0 := keepc hg (hc k hk)
      have hbl : b < w1.heap.size := World.block_lt_of_cell? w1 _ (hc k hk)
      have hne3 : ∀ j, Value.ownBlock (.slice ua t.length uc) = some j → j ≠ b := fun j hj => by have := (hown.lt j hj).1; omega
      have Hd := Lib.hid (List.drop_eq_getElem_cons hk)
      have Hown := Lib.hid hown
      have Htm := Lib.hid htm
      clear hc hown htm
      rw [e1]
      generalize A[k] = x at *
      have g1 : (0 : Int) ≤ (k : Int) := by omega
      have g2 : (k : Int) < (A.length : Int) := by omega
      go_wp2_with fail
      go_region_held3 (fun w' => w'.cell? ⟨b, o + k, none⟩ = some (.int .i64 x)) (first | (go_keep; done) | (refine cell_grown' hgrow3 hne3 ?_; (simp [*]; done)) | ((with_reducible (repeat (first | assumption | refine And.intro ?_ ?_ | refine cv_dr ?_ | refine cv_sc _ _ ?_ | (rw [World.cell?_drew]; assumption) | (rw [World.frozen?_drew]; assumption) | (rw [World.frozen?_setCell]) | (refine cv_gr hb ?_; first | assumption | (refine cv_dr ?_; assumption)) | (refine keepc hb ?_; first | assumption | (rw [World.cell?_drew]; assumption) | (refine keepc (Gr.al Gr.rfl' _) ?_; first | assumption | (rw [World.cell?_drew]; assumption))) | (refine keepf' hb ?_ ?_ <;> first | assumption | (refine cv_dr ?_; assumption) | (rw [World.frozen?_drew]; assumption)) | (refine cell_grown' hgrow3 hne3 ?_; first | assumption | (refine keepc (Gr.al Gr.rfl' _) ?_; assumption)) | (refine keepc (Gr.al Gr.rfl' _) ?_; first | assumption | (rw [World.cell?_drew]; assumption)) | (rw [World.cell?_setCell_other _ _ _ _ (by simp)])))); done))
        (first
          | (refine step_append_lies _ (by rfl) _ _ 27 (by rfl) w1.heap.size 3 i0 (.int .i64 0) 1 8 Try.underlying27 hi hz0 hz1 hz2 rfl (by decide) _ t.length (encI t) (by rfl) (Hown.out.alloc _) ⟨wr.heap.size, 0, none⟩ 2 2 [.int .i64 x, .int .i64 x] (by rfl) rfl (World.news_of_block (heap_alloc_new wr _)) (by intro u hu; simp only [List.mem_cons, List.not_mem_nil, or_false] at hu; rcases hu with rfl | rfl <;> rfl) (by decide) (by unfold maxLen; omega) (by omega) (by simp; omega) _ rfl ?_; intro g cap w3 hown3 hgrow3 hat3 hlt3)
          | fail)
      all_goals
        go_wp2_with fail
        go_roundw
        case rel => exact ⟨k, by omega, by go_num, ⟨t ++ [x, x], by have := Htl.out; simp; omega, fun y => by
          rw [List.mem_append, Htm.out, Hd.out]; simp; exact Or.comm, own_cast hown3 (by simp) (by simp)⟩, gr_gb (by (repeat (first | exact Gr.rfl' | refine Gr.al ?_ _ | refine Gr.dr ?_ | refine Gr.drN ?_ | refine Gr.sc ?_ (by simp <;> omega) _ | refine Gr.tr ?_ (by assumption)))) hgrow3 (fun j hj => (Hown.out.lt j hj).1)⟩
        case measure => simp [intOf]
    · obtain rfl : j = 0 := by omega
      have hN : nodesOf t = nodesOf A := nodesOf_mem (by simpa using htm)
      clear htm Htl HA
      have hz0' : ((0 : Nat) : Int) - 1 = -1 := by decide
      have hn1 := new_calls 1 _ A wr (HrA.out.gr hg) (by omega)
      have Hown := Lib.hid hown
      clear hown
      go_wp2_with fail
      refine hn1.mono ?_
      rintro e w3 ⟨p1, ps, rfl, hps, hrg1, hb⟩
      have hR1 := hrg1.rd
      have hT3 := own_gr Hown.out hb
      have hG3 := (hG.tr hg).tr hb
      clear hb hn1 hrg1 Hown
      have hn2 := new_calls 1 _ t w3 (rdRow_of_own hT3) (by omega)
      rw [hN] at hn2
      go_wp2_with fail
      refine hn2.mono ?_
      rintro e w4 ⟨p2, ps2, rfl, hps2, hrg2, hb⟩
      obtain rfl : ps = ps2 := isPts_unique hps hps2
      have hR2 := hrg2.rd
      replace hR1 := hR1.gr hb
      replace hG3 := hG3.tr hb
      clear hb hn2 hrg2 hT3 hps2 hN
      have hpl := hps.len
      have hnl := nodesTo_len A 16
      have hk8 : ps.length ≤ 128 := by rw [hpl]; unfold nodesOf; omega
      have HP := Lib.hid (fun (p : Nat) (W : World) (hr : RD W p 1 (nodesOf A) ps) (most : Int) => prefer_calls p 1 (nodesOf A) ps key most W hr hk8 hps.2 hks)
      have HM := Lib.hid (fun (W : World) (h1 : RD W p1 1 (nodesOf A) ps) (h2 : RD W p2 1 (nodesOf A) ps) => moved_calls p1 p2 1 1 (nodesOf A) (nodesOf A) ps ps key most W h1 h2 hk8 hk8 hps.2 hps.2 hks)
      have HNc := Lib.hid (fun (W : World) (h1 : RD W p1 1 (nodesOf A) ps) => nodes_calls p1 1 (nodesOf A) ps W h1 (by unfold nodesOf; omega))
      have hq1 := begins hps (hashS key) most
      have hq2 := nodes_all hps (hashS key)
      have hq3 : (prefer ps (hashS key) 16).length = (nodesOf A).length := by rw [prefer_all hps]; exact full_len hps (nodup_nodesOf A) _
      have hnl16 : (nodesOf A).length ≤ 16 := hnl
      obtain ⟨Al, hAl⟩ : ∃ z, prefer ps (hashS key) 16 = z := ⟨_, rfl⟩
      obtain ⟨Pm, hPm⟩ : ∃ z, prefer ps (hashS key) most = z := ⟨_, rfl⟩
      rw [hAl, hPm] at hq1
      rw [hAl] at hq2 hq3
      have HAl := Lib.hid hAl; have HPm := Lib.hid hPm
      have hall : Al.length ≤ 16 := by omega
      clear hps hpl hnl hk8 hAl hPm
      have Hq1 := Lib.hid hq1; have Hq2 := Lib.hid hq2; have Hq3 := Lib.hid hq3
      clear hq1 hq2 hq3
      go_wp2_with fail
      refine (HP.out p1 _ hR1 16).mono ?_
      rintro e w5 ⟨v5, rfl, ho5, hb⟩
      rw [HAl.out] at ho5
      have r5 := rdRow_of_own ho5
      replace hR1 := hR1.gr hb
      replace hR2 := hR2.gr hb
      replace hG3 := hG3.tr hb
      clear hb ho5
      obtain ⟨a5, c5, rfl⟩ : ∃ a c, v5 = .slice a Al.length c := by obtain ⟨_, a, c, e, _⟩ := r5; exact ⟨a, c, e⟩
      have hc5 : Al.length ≤ c5 := by obtain ⟨_, a, c, e, h, _⟩ := r5; cases e; exact h
      have R5 := Lib.hid r5
      clear r5
      go_wp2_with fail
      refine (HP.out p2 _ hR2 16).mono ?_
      rintro e w6 ⟨v6, rfl, ho6, hb⟩
      rw [HAl.out] at ho6
      have hs1 := same_calls (.slice a5 Al.length c5) v6 Al Al w6 (R5.out.gr hb) (rdRow_of_own ho6) (by omega)
      replace R5 := Lib.hid (R5.out.gr hb)
      replace hR1 := hR1.gr hb
      replace hR2 := hR2.gr hb
      replace hG3 := hG3.tr hb
      clear hb ho6
      go_wp2_with fail
      refine hs1.mono ?_
      rintro e w7 ⟨rfl, hb⟩
      replace R5 := Lib.hid (R5.out.gr hb)
      replace hR1 := hR1.gr hb
      replace hR2 := hR2.gr hb
      replace hG3 := hG3.tr hb
      clear hb hs1
      have hrn := rnodes_calls _ Al w7 R5.out (by omega)
      rw [Hq2.out] at hrn
      go_wp2_with fail
      refine hrn.mono ?_
      rintro e w8 ⟨v8, rfl, ho8, hb⟩
      replace R5 := Lib.hid (R5.out.gr hb)
      replace hR1 := hR1.gr hb
      replace hR2 := hR2.gr hb
      replace hG3 := hG3.tr hb
      clear hb hrn
      go_wp2_with fail
      refine (HNc.out _ hR1).mono ?_
      rintro e w9 ⟨v9, rfl, ho9, hb⟩
      have hs2 := same_calls v8 v9 (nodesOf A) (nodesOf A) w9 ((rdRow_of_own ho8).gr hb) (rdRow_of_own ho9) (by omega)
      replace R5 := Lib.hid (R5.out.gr hb)
      replace hR1 := hR1.gr hb
      replace hR2 := hR2.gr hb
      replace hG3 := hG3.tr hb
      clear hb ho8 ho9
      go_wp2_with fail
      refine hs2.mono ?_
      rintro e w10 ⟨rfl, hb⟩
      replace R5 := Lib.hid (R5.out.gr hb)
      replace hR1 := hR1.gr hb
      replace hR2 := hR2.gr hb
      replace hG3 := hG3.tr hb
      clear hb hs2
      obtain ⟨k, hk⟩ : ∃ k : Nat, min most.toNat Al.length = k := ⟨_, rfl⟩
      have hk1 : Al.take most.toNat = Al.take k := by rw [← hk, List.take_eq_take_min]
      have Hk1 := Lib.hid (Hq1.out.trans hk1)
      clear hk1
      have hkl : k ≤ Al.length := by omega
      have hcs : (most < 0 ∧ k = 0) ∨ (¬ most < 0 ∧ ¬ (most > (Al.length : Int)) ∧ most = k) ∨ (¬ most < 0 ∧ most > (Al.length : Int) ∧ k = Al.length) := by omega
      have hkc : (k : Int) ≤ c5 := by omega
      have hkt : (Al.take k).length ≤ 1000000 := by rw [List.length_take]; omega
      have hPml : Pm.length ≤ 1000000 := by rw [Hk1.out]; exact hkt
      have hl0 : (Pm.filter fun x => !decide (x ∈ Pm)) = [] := by rw [List.filter_eq_nil_iff]; intro x hx; simp [hx]
      have Hl0 := Lib.hid hl0
      have Htk := Lib.hid (fun W (hg : Gr w10 W) => rd_take (R5.out.gr hg) hkl)
      clear hk hl0 hkt
      rcases hcs with ⟨m1, rfl⟩ | ⟨m1, m2, rfl⟩ | ⟨m1, m2, rfl⟩
      all_goals
        go_wp2_with fail
        go_region_held3 (fun w' => True) (trivial)
          (first
            | (go_at_call 14; refine (HP.out p1 _ (hR1.gr (by (repeat (first | exact Gr.rfl' | refine Gr.al ?_ _ | refine Gr.dr ?_ | refine Gr.drN ?_ | refine Gr.sc ?_ (by simp <;> omega) _ | refine Gr.tr ?_ (by assumption))))) _).mono ?_; rintro e w11 ⟨v11, rfl, ho11, hb11⟩; rw [HPm.out] at ho11)
            | (go_at_call 15; refine (same_calls _ _ Pm _ _ (rdRow_of_own ho11) (Htk.out _ (by (repeat (first | exact Gr.rfl' | refine Gr.al ?_ _ | refine Gr.dr ?_ | refine Gr.drN ?_ | refine Gr.sc ?_ (by simp <;> omega) _ | refine Gr.tr ?_ (by assumption))))) hPml).mono ?_; rintro e w12 ⟨rfl, hb12⟩)
            | fail)
        have hdk := decide_eq_true Hk1.out
        try (have hdk2 := hdk; rw [List.take_length] at hdk2)
        have hle : ((Al.length : Int) == ((nodesOf A).length : Int)) = true := by rw [Hq3.out]; simp
        have hg12 : Gr w10 w12 := by (repeat (first | exact Gr.rfl' | refine Gr.al ?_ _ | refine Gr.dr ?_ | refine Gr.drN ?_ | refine Gr.sc ?_ (by simp <;> omega) _ | refine Gr.tr ?_ (by assumption)))
        have hR1' := hR1.gr hg12
        have hR2' := hR2.gr hg12
        have hG12 := hG3.tr hg12
        clear ho11 hb11 hb12 hg12 hR1 hR2 hG3
        go_wp2_with fail
        refine (HNc.out _ hR1').mono ?_
        rintro e w13 ⟨v13, rfl, ho13, hb13⟩
        obtain ⟨a13, c13, rfl⟩ := own_slice ho13
        have hR1s := hR1'.gr hb13
        have hR2s := hR2'.gr hb13
        have hG13 := hG12.tr hb13
        clear ho13 hb13 hR1' hR2' hG12
        go_wp2_with fail
        refine (HM.out _ hR1s hR2s).mono ?_
        rintro e w14 ⟨v14, rfl, hr14, hb14⟩
        rw [HPm.out, Hl0.out] at hr14
        obtain ⟨_, a14, c14, rfl, _, _⟩ := hr14
        have hG14 := hG13.tr hb14
        clear hb14 hG13 hR1s hR2s
        go_wp2_with fail
        go_ret
        exact ⟨rfl, hG14⟩
end Go.Proofs.Ytomhdkppgfcaaaa

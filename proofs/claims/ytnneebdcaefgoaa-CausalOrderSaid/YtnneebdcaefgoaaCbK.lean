/- The laws' log: logged. -/
import Derived.Test.YtnneebdcaefgoaaCbJ
namespace Go.Proofs.Ytnneebdcaefgoaa
open Go.RowKit Go.Maps

/-- A record that may come next. -/
def OkAt (l : List Rec) (r : Rec) : Prop := RecOk r ∧ r.q = atV (knowV l) r.st + 1 ∧ Cov (knowV l) r.d
/-- Records of a log. -/
def LogP (l : List Rec) : Prop := ∀ j (h : j < l.length), OkAt (l.take j) l[j]
theorem LogP.nil : LogP [] := fun j h => by simp at h
theorem LogP.snoc {l : List Rec} (h : LogP l) {r : Rec} (hr : OkAt l r) : LogP (l ++ [r]) := fun j hj => by
  simp at hj
  by_cases e : j < l.length
  · rw [List.getElem_append_left e, List.take_append_of_le_length (by omega)]; exact h j e
  · obtain rfl : j = l.length := by omega
    rw [List.getElem_append_right (by omega), List.take_left]
    simpa using hr
theorem cov_own (K : List Int) {s : Int} : Cov K (withV [] s (atV K s)) := fun i hi => by
  rw [at8_with [] s _ hi]
  unfold withF
  by_cases e : (i : Int) = s
  · rw [if_pos e, ← e, clN_id (atV_nn K i), atV_in _ hi]; exact Int.le_refl _
  · rw [if_neg e, at8_nil]; exact (at8_nn K i).1
def LoggedPost (w : World) (e : Ending) (w' : World) : Prop :=
  ∃ v L, e = .returned v ∧ w'.ownsRow w.heap.size 33 9 v L.length (encR L) ∧ (∀ x ∈ L, rdRow w' 1 x.2 x.1.d.length (encI x.1.d)) ∧ LogP (L.map (·.1)) ∧ L.length ≤ 40 ∧ Gr w w'
set_option maxRecDepth 100000 in
set_option maxHeartbeats 8000000 in
theorem logged_calls (v1 : Value) (ops : List OpR) (w : World) (hv1 : rdRow w 10 v1 ops.length (ops.flatMap opC)) (hops : ∀ o ∈ ops, OpOk w o) (hlm : ops.length ≤ maxLen) :
    Calls Try.prog 9 #[v1] w (LoggedPost w) := by
  have hnil : ∀ W, rdRow W 1 (.slice none 0 0) ([] : List Int).length (encI []) := fun W => ⟨rfl, none, 0, rfl, Nat.le_refl _, fun h => by simp at h⟩
  have Hnew := Lib.hid (log_new 400 (.slice none 0 0) [] w (hnil w) (by decide))
  obtain ⟨a1, c1, rfl, hc1⟩ : ∃ a c, v1 = .slice a ops.length c ∧ ops.length ≤ c := by obtain ⟨_, a, c, e, h, _⟩ := hv1; exact ⟨a, c, e, h⟩
  have HV := Lib.hid hv1; have HO := Lib.hid hops
  unfold maxLen at hlm
  clear hnil hv1 hops hc1
  go_enter Try.func9, Try.ntmps9
  go_wp2_with fail
  refine Hnew.out.mono ?_
  rintro e w1 ⟨p, bv, rfl, hp, hblk, hbv, hg1⟩
  have H0 := Lib.hid (show LogAt w1 p w.heap.size 400 0 bv (.slice none 0 0) [] from ⟨hblk, by obtain ⟨⟨_, a, c, e, _⟩, _⟩ := hbv; exact ⟨a, c, e⟩, World.ownsRow_nil _ _ _ _, fun e => (by simp [Value.ownBlock] at e), hp, fun x hx => (by simp at hx)⟩)
  have G1 := Lib.hid hg1
  clear hblk hbv hg1 Hnew hp
  go_wp2_with fail
  go_loopw [4] (fun iv wr => ∃ (i : Nat) (clock : Int) (v : Value) (L : List (Rec × Value)), i ≤ ops.length ∧ i ≤ 40 ∧ iv = .int .i64 i ∧ Hid (LogAt wr p w.heap.size 400 clock bv v L) ∧ Hid (LogP (L.map (·.1))) ∧ L.length ≤ i ∧ Gr w wr) (fun iv _ => ops.length - (intOf iv).toNat)
  case atStart => exact ⟨0, 0, _, [], Nat.zero_le _, Nat.zero_le _, rfl, H0, Lib.hid LogP.nil, Nat.le_refl _, G1.out⟩
  case round =>
    obtain ⟨i, clock, v, L, hi1, hi2, rfl, HL, HP, hLi, hg⟩ := hrel
    by_cases hlt : i < ops.length ∧ i < 40
    · obtain ⟨hl1, hl2⟩ := hlt
      have hl1' : (i : Int) < ops.length := by omega
      have hl2' : (i : Int) < 40 := by omega
      have hl0' : (0 : Int) ≤ (i : Int) := by omega
      obtain ⟨bs, os, cs, es, _, hrng⟩ := rd_range opC 10 (fun _ => rfl) HV.out (by omega)
      injection es with es1 es2 es3
      subst es1
      have Hrng0 := Lib.hid (hrng i hl1)
      have Ho := Lib.hid (HO.out _ (List.getElem_mem hl1))
      clear hrng es3
      obtain ⟨o, ho⟩ : ∃ o, ops[i] = o := ⟨_, rfl⟩
      rw [ho] at Hrng0 Ho
      clear ho
      have hR1 := Lib.hid (show w.rangeAt bs (os + i * 10 + 1) (recL (o.r, o.d)) from fun j u hu => by have := Hrng0.out (j + 1) u hu; rwa [show os + i * 10 + (j + 1) = os + i * 10 + 1 + j by omega] at this)
      have hk0 := Lib.hid (fun W (hg' : Gr w W) => rangeAt_gr hg' Hrng0.out 0 _ rfl)
      have Hd := Lib.hid (fun W (hg' : Gr w W) => Ho.out.2.2.1.gr hg')
      go_upto_region 6 with (first | (refine wpList_load_mid rfl 33 (.tmp 21) rfl bs (os + i * 10 + 1) rfl (recL (o.r, o.d)) _ (rangeAt_gr hg hR1.out) Try.underlying33 rfl info_rec ?_) | (go_at_call 15; refine (small_q o.r o.d _ (Hd.out _ hg) Ho.out.2.2.2).mono ?_; rintro e w4 ⟨q, a4, n4, Hq, hq12, He4, rfl, hd4, hb4⟩) | (refine wpList_store_blk rfl 33 (.tmp 5) (.tmp 23) rfl w4.heap.size (recC q (.slice a4 q.d.length n4)) rfl rfl _ _ (heap_alloc_new w4 _) rfl info_rec (one_rec _ _ rfl) (fun w5 b5 g5 s5 => ?_)))
      obtain ⟨A5, eA5⟩ : ∃ A, w4.heap.size = A := ⟨_, rfl⟩
      have hg5 : Gr w w5 := gr_new (Gr.al (hg.tr hb4) (.cells #[.int .i64 0, .string ⟨#[]⟩, .int .i64 0, .int .i64 0, .int .i64 0, .int .i64 0, .int .i64 0, .int .i64 0, .slice none 0 0] 33)) g5 (hg.tr hb4).size
      have hgr5 : Gr wr w5 := gr_new (Gr.al hb4 (.cells #[.int .i64 0, .string ⟨#[]⟩, .int .i64 0, .int .i64 0, .int .i64 0, .int .i64 0, .int .i64 0, .int .i64 0, .slice none 0 0] 33)) g5 hb4.size
      rw [eA5] at b5 ⊢
      have hg0 := Lib.hid hg.size
      have hA5w : wr.heap.size ≤ A5 := by rw [← eA5]; exact hb4.size
      have HL5 := Lib.hid (HL.out.gr' hgr5); have G5 := Lib.hid hg5; have B5 := Lib.hid b5; have HA5 := Lib.hid hA5w
      have Hq12 := Lib.hid hq12
      have GR5 := Lib.hid hgr5
      clear b5 g5 s5 hg5 hgr5 hd4 hb4 eA5 hA5w hq12 hg
      have c56 := cell_of_row w5 A5 6 _ _ _ B5.out
      rw [show (recC q (.slice a4 q.d.length n4))[6]? = some (.int .i64 q.st) from rfl] at c56
      by_cases hs : 0 ≤ q.st ∧ q.st ≤ 7
      · obtain ⟨hs1, hs2⟩ := hs
        have hs1' : ¬ q.st < 0 := by omega
        have hs2' : ¬ 7 < q.st := by omega
        have hLn : L.length ≤ 1000 := by omega
        have Hkn := Lib.hid (know_calls w5 p w.heap.size 400 clock bv v L HL5.out hLn)
        have hK8 := knowV_le (L.map (·.1))
        obtain ⟨K, hK⟩ : ∃ K, knowV (L.map (·.1)) = K := ⟨_, rfl⟩
        rw [hK] at Hkn hK8
        have HK := Lib.hid hK
        have hann := atV_nn K q.st
        have hwr : IntKind.i64.wrap (atV K q.st + 1) = atV K q.st + 1 := by unfold topN at hann; simp [IntKind.wrap, IntKind.bits, IntKind.signed]; omega
        have HAnn := Lib.hid hann
        clear hK hann
        go_upto_region 9 with (first | (go_at_call 31; refine Hkn.out.mono ?_; rintro e w6 ⟨kv, rfl, hkv, hb6⟩; obtain ⟨⟨_, ak, ck, rfl, _⟩, _⟩ := id hkv; have HKV := Lib.hid hkv; have B6 := Lib.hid (hb6.blk B5.out); have G6 := Lib.hid hb6; have c66 := cell_of_row w6 A5 6 _ _ _ B6.out; rw [show (recC q (.slice a4 q.d.length n4))[6]? = some (.int .i64 q.st) from rfl] at c66; clear hkv hb6) | (go_at_call 19; refine (rat_calls _ K q.st _ HKV.out.1 (by omega)).mono ?_; rintro e w7 ⟨rfl, hb7⟩; have B7 := Lib.hid (hb7.blk B6.out); have G7 := Lib.hid hb7; have c77 := cell_of_row w7 A5 7 _ _ _ B7.out; rw [show (recC q (.slice a4 q.d.length n4))[7]? = some (.int .i64 q.q) from rfl] at c77; have f77 := fun o => frozen_of_row w7 A5 o _ _ B7.out; clear hb7))
        -- the number is stored, then what is known
        have e8 := heap_setCell_same w7 A5 7 _ _ (.int .i64 (atV K q.st + 1)) B7.out
        have hb8 : Bt (fun b => b = A5) w7 (w7.setCell ⟨A5, 7, none⟩ (.int .i64 (atV K q.st + 1))) := Bt.row (grown_set w7 A5 7 _) rfl
        generalize w7.setCell ⟨A5, 7, none⟩ (.int .i64 (atV K q.st + 1)) = w8 at *
        obtain ⟨q8, hq8⟩ : ∃ q8 : Rec, q8 = { q with q := atV K q.st + 1 } := ⟨_, rfl⟩
        have B8 := Lib.hid (show w8.heap[A5]? = some (.cells (recC q8 (.slice a4 q.d.length n4)) 33 (0, 0)) by rw [hq8]; exact e8)
        have HQ8 := Lib.hid hq8
        have T8 := Lib.hid hb8
        have c88 := cell_of_row w8 A5 8 _ _ _ B8.out
        rw [show (recC q8 (.slice a4 q.d.length n4))[8]? = some (.slice a4 q.d.length n4) from rfl] at c88
        have f88 := fun o => frozen_of_row w8 A5 o _ _ B8.out
        clear e8 hb8 hq8 c77 f77 c66 c56
        go_upto_region 10 with (fail)
        have e9 := heap_setCell_same w8 A5 8 _ _ (.slice ak K.length ck) B8.out
        have hb9 : Bt (fun b => b = A5) w8 (w8.setCell ⟨A5, 8, none⟩ (.slice ak K.length ck)) := Bt.row (grown_set w8 A5 8 _) rfl
        generalize w8.setCell ⟨A5, 8, none⟩ (.slice ak K.length ck) = w9 at *
        obtain ⟨q9, hq9⟩ : ∃ q9 : Rec, q9 = { q8 with d := K } := ⟨_, rfl⟩
        have B9 := Lib.hid (show w9.heap[A5]? = some (.cells (recC q9 (.slice ak K.length ck)) 33 (0, 0)) by rw [hq9]; exact e9)
        have HQ9 := Lib.hid hq9
        have T9 := Lib.hid (T8.out.tr hb9)
        clear e9 hb9 hq9 c88 f88
        have GR9 := Lib.hid (T9.out.gr (GR5.out.tr (G6.out.tr G7.out)) (fun k hk => by rw [hk]; exact HA5.out))
        have GW9 := Lib.hid (T9.out.gr (G5.out.tr (G6.out.tr G7.out)) (fun k hk => by rw [hk]; exact Nat.le_trans hg0.out HA5.out))
        have HK9 := Lib.hid (((HKV.out.gr G7.out).bt T9.out (fun k hk => by rw [hk]; exact blk_lt B5.out)))
        have hkind := hk0.out w9 GW9.out
        rw [Nat.add_zero] at hkind
        go_upto_if 52 with (fail)
        clear hkind
        go_cut [5] (fun v5 wx => ∃ (qx : Rec) (ax : Option Addr) (cx : Nat), v5 = .pointer (some ⟨A5, 0, none⟩) ∧ Hid (wx.heap[A5]? = some (.cells (recC qx (.slice ax qx.d.length cx)) 33 (0, 0))) ∧ Hid (rdX (Fresh w5) wx (.slice ax qx.d.length cx) qx.d) ∧ Hid (qx.st = q.st ∧ qx.q = atV K q.st + 1 ∧ Cov K qx.d ∧ qx.d.length ≤ 8) ∧ Hid (Gr wr wx) ∧ Hid (Gr w wx))
        case first =>
          by_cases hev : o.k.tmod 2 = 0
          · have hev' : (o.k.tmod 2 != 0) = false := by simp [hev]
            clear hev
            go_wp2_with fail
            go_meet
            have e1 : q9.d = K := by rw [HQ9.out]
            refine ⟨q9, ak, ck, rfl, Lib.hid (by rw [e1]; exact B9.out), Lib.hid (by rw [e1]; exact HK9.out), Lib.hid ⟨by rw [HQ9.out, HQ8.out], by rw [HQ9.out, HQ8.out], by rw [e1]; exact cov_refl K, by rw [e1]; exact hK8⟩, GR9, GW9⟩
          · have hev' : (o.k.tmod 2 != 0) = true := by simp [hev]
            clear hev
            have e1 : q9.st = q.st := by rw [HQ9.out, HQ8.out]
            have e2 : q9.q = atV K q.st + 1 := by rw [HQ9.out, HQ8.out]
            have c96 := cell_of_row w9 A5 6 _ _ _ B9.out
            rw [show (recC q9 (.slice ak K.length ck))[6]? = some (.int .i64 q9.st) from rfl, e1] at c96
            have c97 := cell_of_row w9 A5 7 _ _ _ B9.out
            rw [show (recC q9 (.slice ak K.length ck))[7]? = some (.int .i64 q9.q) from rfl, e2] at c97
            have hwr2 : IntKind.i64.wrap (atV K q.st + 1 - 1) = atV K q.st := by have := HAnn.out; unfold topN at this; simp [IntKind.wrap, IntKind.bits, IntKind.signed]; omega
            have hwr3 : IntKind.i64.wrap (atV K q.st) = atV K q.st := by have := HAnn.out; unfold topN at this; simp [IntKind.wrap, IntKind.bits, IntKind.signed]; omega
            have Hw := Lib.hid (rwith_calls (.slice none 0 0) [] q.st (atV K q.st) w9 ⟨rfl, none, 0, rfl, Nat.le_refl _, fun h => absurd h (by decide)⟩ (by decide))
            have E1 := Lib.hid e1; have E2 := Lib.hid e2
            clear e1 e2
            go_wp2_with (go_at_call 20; refine Hw.out.mono ?_; rintro e w11 ⟨v11, rfl, ho11, hb11⟩; obtain ⟨a11, n11, rfl⟩ := own_slice ho11; have Ho11 := Lib.hid (own_rdX ho11); have G11 := Lib.hid hb11; have B11 := Lib.hid (hb11.blk B9.out); have c118 := cell_of_row w11 A5 8 _ _ _ B11.out; rw [show (recC q9 (.slice ak K.length ck))[8]? = some (.slice ak K.length ck) from rfl] at c118; have f118 := fun o => frozen_of_row w11 A5 o _ _ B11.out; clear ho11 hb11)
            have e12 := heap_setCell_same w11 A5 8 _ _ (.slice a11 (withV [] q.st (atV K q.st)).length n11) B11.out
            have hb12 : Bt (fun b => b = A5) w11 (w11.setCell ⟨A5, 8, none⟩ (.slice a11 (withV [] q.st (atV K q.st)).length n11)) := Bt.row (grown_set w11 A5 8 _) rfl
            generalize w11.setCell ⟨A5, 8, none⟩ (.slice a11 (withV [] q.st (atV K q.st)).length n11) = w12 at *
            go_meet
            refine ⟨{ q9 with d := withV [] q.st (atV K q.st) }, a11, n11, rfl, Lib.hid e12, Lib.hid ?_, Lib.hid ⟨E1.out, E2.out, cov_own K, withV_le _ _ _⟩, Lib.hid ?_, Lib.hid ?_⟩
            · exact (Ho11.out.bt hb12 (fun k hk => by rw [hk]; exact blk_lt B9.out)).mono (fun k hk => Nat.lt_of_lt_of_le hk (Nat.le_trans (G6.out.tr G7.out).size T9.out.size))
            · exact hb12.gr (GR9.out.tr G11.out) (fun k hk => by rw [hk]; exact HA5.out)
            · exact hb12.gr (GW9.out.tr G11.out) (fun k hk => by rw [hk]; exact Nat.le_trans hg0.out HA5.out)
        case rest =>
          obtain ⟨qx, ax, cx, rfl, BX5, DX5, PX5, GRx, GWx⟩ := hcut
          have hLX : ∀ b, LX p v b → Fresh w5 b := fun b hb => Nat.lt_of_lt_of_le (HL.out.lt b hb).2 GR5.out.size
          have hdx : rdX (LX p v) wc (.slice ax qx.d.length cx) qx.d := DX5.out.mono hLX
          have hKx := HK.out
          have hadd : Calls Try.prog 32 #[.pointer (some ⟨p, 0, none⟩), recV qx (.slice ax qx.d.length cx)] wc fun e w' => (∃ n, e = .returned (.int .i64 n)) ∧ ∃ clock' v' L', Hid (LogAt w' p w.heap.size 400 clock' bv v' L') ∧ Hid (LogP (L'.map (·.1))) ∧ L'.length ≤ i + 1 ∧ Gr w w' := by
            have hL' := HL.out.gr' GRx.out
            by_cases hR : RecOk qx
            · refine (add_good wc p w.heap.size 400 clock bv v L hL' qx _ hdx (by have := PX5.out.2.2.2; omega) hR hLn (by omega) (by rw [hKx]; exact PX5.out.2.2.1) (by rw [hKx, PX5.out.1]; exact PX5.out.2.1)).mono ?_
              rintro e w' ⟨n, v', clock', rfl, h1, h2, _⟩
              refine ⟨⟨n, rfl⟩, clock', v', _, Lib.hid h1, Lib.hid ?_, by simp; exact hLi, h2.gr GWx.out (fun b hb => (hL'.lt b hb).1)⟩
              rw [List.map_append, List.map_cons, List.map_nil]
              exact HP.out.snoc ⟨hR, by rw [hKx, PX5.out.1]; exact PX5.out.2.1, by rw [hKx]; exact PX5.out.2.2.1⟩
            · refine (add_bad wc p w.heap.size 400 clock bv v L hL' qx _ hdx.1 (by have := PX5.out.2.2.2; omega) hR).mono ?_
              rintro e w' ⟨n, v', clock', rfl, h1, h2, _⟩
              exact ⟨⟨n, rfl⟩, clock', v', _, Lib.hid h1, HP, by omega, h2.gr GWx.out (fun b hb => (hL'.lt b hb).1)⟩
          have Hadd := Lib.hid hadd
          clear hadd hdx hLX hKx
          go_wp2_with (first | (refine wpList_load_row rfl 33 (.tmp 5) rfl A5 rfl _ (recC qx (.slice ax qx.d.length cx)) (0, 0) _ BX5.out Try.underlying33 rfl info_rec ?_) | (go_at_call 32; refine Hadd.out.mono ?_; rintro e w13 ⟨⟨n13, rfl⟩, clock', v', L', h1, h2, h3, h4⟩))
          go_roundw
          case rel => exact ⟨i + 1, clock', v', L', by omega, by omega, by go_num, h1, h2, h3, h4⟩
          case measure => simp [intOf]; omega
      · have hcont : q.st < 0 ∨ (¬ q.st < 0 ∧ 7 < q.st) := by omega
        have HL5' := Lib.hid (show LogAt w5 p w.heap.size 400 clock bv v L from HL5.out)
        rcases hcont with h1 | ⟨h1, h2⟩
        all_goals
          go_wp2_with fail
          go_roundw
          case rel => exact ⟨i + 1, clock, v, L, by omega, by omega, by go_num, HL5', HP, by omega, G5.out⟩
          case measure => simp [intOf]; omega
    · have c2 : wr.cell? ⟨p, 2, none⟩ = some v := (cell_of_row wr p 2 _ _ _ HL.out.blk).trans rfl
      have hpost : LoggedPost w (.returned v) wr := ⟨v, L, rfl, HL.out.own, fun x hx => (HL.out.deps x hx).1, HP.out, by omega, hg⟩
      obtain ⟨av, cv', rfl, _⟩ := HL.out.form
      have Hpost := Lib.hid hpost
      clear hpost
      by_cases hl1 : i < ops.length
      · have hl1' : (i : Int) < ops.length := by omega
        have hl2' : ¬ (i : Int) < 40 := by omega
        clear hlt
        go_wp2_with fail
        go_ret
        exact Hpost.out
      · have hl1' : ¬ (i : Int) < ops.length := by omega
        clear hlt
        go_wp2_with fail
        go_ret
        exact Hpost.out
end Go.Proofs.Ytnneebdcaefgoaa

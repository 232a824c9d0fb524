import Derived.Test.YtafdddakkenlaaaWinS
import Derived.Test.YtafdddakkenlaaaFrW
namespace Go.Proofs.Ytafdddakkenlaaa
open Go.RowKit Go.Sort
attribute [local go_sem ↓] field26_0 field26_1

theorem gb_of_gr {w w' : World} {row : Option Nat} (h : Gr w w') : w.grownBy w' row := ⟨h.os, h.tape, h.output, h.size, fun k hk _ => h.block k hk⟩

theorem add_any {pb : Nat} {l : List Sp} {c d : Int} {w : World} (h : isSet w pb l) (hn : Norm l) (hs : 0 ≤ c ∧ c ≤ 1000 ∧ d ≤ 1000) :
    Calls Try.prog 37 #[.pointer (some ⟨pb, 0, none⟩), .agg #[.int .i64 c, .int .i64 d]] w fun e w' => ∃ l2 : List Sp, e = .returned (.bool (decide (szS l < szS l2))) ∧ isSet w' pb l2 ∧ Norm l2 ∧ (∀ t, memS l2 t ↔ memS l t ∨ (c ≤ t ∧ t < d)) ∧ w.grownBy w' (some pb) := by
  by_cases hv : c < d
  · exact add_n h hn (by unfold okP; simp only; omega)
  · have hh : wCheck (c, d) ≠ 0 ∨ c = d := by
      by_cases e : c = d
      · exact .inr e
      · left; intro h2; have := wCheck_0.1 h2; omega
    refine (add_not hh).mono ?_
    rintro e w' ⟨rfl, hg⟩
    exact ⟨l, by simp, h.gr hg, hn, fun t => ⟨.inl, fun h => h.elim id (fun h => by omega)⟩, gb_of_gr hg⟩
theorem take_any {pb : Nat} {l : List Sp} {c d : Int} {w : World} (h : isSet w pb l) (hn : Norm l) :
    Calls Try.prog 35 #[.pointer (some ⟨pb, 0, none⟩), .agg #[.int .i64 c, .int .i64 d]] w fun e w' => ∃ l2 : List Sp, e = .returned (.bool (decide (szS l2 < szS l))) ∧ isSet w' pb l2 ∧ Norm l2 ∧ (wCheck (c, d) = 0 ∧ (∀ t, memS l2 t ↔ memS l t ∧ ¬ (c ≤ t ∧ t < d)) ∨ wCheck (c, d) ≠ 0 ∧ l2 = l) ∧ w.grownBy w' (some pb) := by
  by_cases hv : wCheck (c, d) = 0
  · refine (take_n h hn hv).mono ?_
    rintro e w' ⟨l2, rfl, h1, h2, h3, h4⟩
    exact ⟨l2, rfl, h1, h2, .inl ⟨hv, h3⟩, h4⟩
  · refine (take_not hv).mono ?_
    rintro e w' ⟨rfl, hg⟩
    exact ⟨l, by simp, h.gr hg, hn, .inr ⟨hv, rfl⟩, gb_of_gr hg⟩

set_option maxHeartbeats 1000000 in
theorem same_calls (v1 v2 : Value) (l : List Sp) (w : World) (h1 : rdRow w 2 v1 l.length (encS l)) (h2 : rdRow w 2 v2 l.length (encS l)) (hk : l.length ≤ 1000000) :
    Calls Try.prog 22 #[v1, v2] w fun e w' => e = .returned (.bool true) ∧ Gr w w' := by
  obtain ⟨_, a1, cap1, rfl, hcap1, hrd1⟩ := h1
  obtain ⟨_, a2, cap2, rfl, hcap2, hrd2⟩ := h2
  go_enter Try.func22, Try.ntmps22
  go_wp2_with fail
  go_loopw [5] (fun i wr => ∃ k : Nat, k ≤ l.length ∧ i = .int .i64 k ∧ Gr w wr) (fun i _ => l.length - (intOf i).toNat)
  case atStart => exact ⟨0, Nat.zero_le _, rfl, Gr.rfl'⟩
  case round =>
    obtain ⟨k, hkl, rfl, hg⟩ := hrel
    by_cases hlt : k < l.length
    · obtain ⟨b1, o1, rfl, hc1⟩ := hrd1 (by omega)
      obtain ⟨b2, o2, rfl, hc2⟩ := hrd2 (by omega)
      have c0 := keepc hg (hc1 _ _ (encS_get l k hlt).1)
      have c1 := keepc hg (hc1 _ _ (encS_get l k hlt).2)
      have d0 := keepc hg (hc2 _ _ (encS_get l k hlt).1)
      have d1 := keepc hg (hc2 _ _ (encS_get l k hlt).2)
      rw [← Nat.add_assoc] at c1 d1
      clear hc1 hc2 hrd1 hrd2
      generalize l[k] = x at c0 c1 d0 d1
      obtain ⟨p, q⟩ := x
      have g1 : (0 : Int) ≤ (k : Int) := by omega
      have g2 : (k : Int) < (l.length : Int) := by omega
      go_wp2_with fail
      go_quiet (fail)
      go_wp2_with fail
      go_roundw
      case rel => exact ⟨k + 1, by omega, by go_num, by (repeat (first | exact Gr.rfl' | refine Gr.al ?_ _ | refine Gr.dr ?_ | refine Gr.drN ?_ | refine Gr.sc ?_ (by simp <;> omega) _ | refine Gr.tr ?_ (by assumption)))⟩
      case measure => simp [intOf]; omega
    · obtain rfl : k = l.length := by omega
      clear hrd1 hrd2
      go_wp2_with fail
      go_ret; exact ⟨ret_b rfl rfl, by (repeat (first | exact Gr.rfl' | refine Gr.al ?_ _ | refine Gr.dr ?_ | refine Gr.drN ?_ | refine Gr.sc ?_ (by simp <;> omega) _ | refine Gr.tr ?_ (by assumption)))⟩

def spO (o : Op3) : Sp := spOf o.2.1 o.2.2
theorem spO_bd (o : Op3) : 0 ≤ (spO o).1 ∧ (spO o).1 < 400 ∧ (spO o).2 < 460 := by
  have h1 := spF_bd o.2.1
  have h2 := tmod_bd o.2.2 60 (by omega)
  simp only [spO, spOf]; omega
theorem spanO (o : Op3) (w : World) : Calls Try.prog 17 #[.agg #[.int .i64 o.1, .int .i64 o.2.1, .int .i64 o.2.2]] w fun e w' => e = .returned (.agg #[.int .i64 (spO o).1, .int .i64 (spO o).2]) ∧ Gr w w' := span_calls o.1 o.2.1 o.2.2 w

def inS (x : Sp) (t : Int) : Prop := x.1 ≤ t ∧ t < x.2

theorem sz_sub {l l' : List Sp} {c d : Int} (h : Norm l) (h' : Norm l') (h0 : 0 ≤ c) (h1 : c ≤ d) (h2 : d ≤ 1000) (hm : ∀ t, memS l t ↔ memS l' t ∨ (c ≤ t ∧ t < d)) (hd : ∀ t, memS l' t → ¬ (c ≤ t ∧ t < d)) : szS l' = szS l - (d - c) := by
  rw [szS_cnt h, szS_cnt h']
  have e : (fun t => l.any (hasB t)) = fun t => l'.any (hasB t) || (decide (c ≤ t) && decide (t < d)) := by
    funext t
    rw [Bool.eq_iff_iff, Bool.or_eq_true, Bool.and_eq_true, decide_eq_true_eq, decide_eq_true_eq, memS_any, memS_any, hm t]
  rw [e, cnt_add, ← cnt_span h0 h1 h2]
  · push_cast; omega
  · intro t ht
    have := hd t ((memS_any l' t).1 ht)
    cases h5 : (decide (c ≤ t) && decide (t < d))
    · rfl
    · rw [Bool.and_eq_true, decide_eq_true_eq, decide_eq_true_eq] at h5; exact absurd h5 this
theorem ex_succ {p : Nat → Prop} {k : Nat} : (∃ j, j < k + 1 ∧ p j) ↔ (∃ j, j < k ∧ p j) ∨ p k := by
  constructor
  · rintro ⟨j, hj, h⟩
    by_cases e : j = k
    · subst e; exact .inr h
    · exact .inl ⟨j, by omega, h⟩
  · rintro (⟨j, hj, h⟩ | h)
    · exact ⟨j, by omega, h⟩
    · exact ⟨k, by omega, h⟩

set_option maxRecDepth 100000 in
set_option maxHeartbeats 4000000 in
theorem takes_law (v : Value) (l : List Op3) (o : Op3) (w : World) (hv : rdRow w 3 v l.length (encO l)) (hm : l.length ≤ maxLen) :
    Calls Try.prog 9 #[v, .agg #[.int .i64 o.1, .int .i64 o.2.1, .int .i64 o.2.2]] w fun e w' => e = .returned (.bool true) ∧ Gr w w' := by
  obtain ⟨_, a, cap, rfl, hcap, hrd⟩ := hv
  unfold maxLen at hm
  have hmin : ∃ n : Nat, n ≤ l.length ∧ n ≤ 12 ∧ (if 12 < (l.length : Int) then (12 : Int) else l.length) = n := by
    by_cases h : 12 < (l.length : Int)
    · exact ⟨12, by omega, by omega, by rw [if_pos h]; rfl⟩
    · exact ⟨l.length, by omega, by omega, by rw [if_neg h]⟩
  go_enter Try.func9, Try.ntmps9
  go_wp2_with fail
  refine (awake_calls _).mono ?_
  rintro e w1 ⟨rfl, hb⟩
  have o0 : w1.cell? ⟨w.heap.size, 0, none⟩ = some (.int .i64 o.1) := keepc hb (by simp)
  have o1 : w1.cell? ⟨w.heap.size, 1, none⟩ = some (.int .i64 o.2.1) := keepc hb (by simp)
  have o2 : w1.cell? ⟨w.heap.size, 2, none⟩ = some (.int .i64 o.2.2) := keepc hb (by simp)
  have hG : Gr w w1 := by (repeat (first | exact Gr.rfl' | refine Gr.al ?_ _ | refine Gr.dr ?_ | refine Gr.drN ?_ | refine Gr.sc ?_ (by simp <;> omega) _ | refine Gr.tr ?_ (by assumption)))
  have hlt1 : w.heap.size < w1.heap.size := World.block_lt_of_cell? _ _ o0
  clear hb
  have hnil : ∀ W : World, rdRow W 2 (.slice none 0 0) ([] : List Sp).length (encS []) := fun W => ⟨rfl, none, 0, rfl, Nat.le_refl _, fun h => absurd h (by simp)⟩
  go_wp2_with fail
  refine (new_calls _ [] _ (hnil _) (by simp) (by simp)).mono ?_
  rintro e w2 ⟨pa, la, rfl, hsa, hna, hma, hb, hpa⟩
  have hB := hb
  have Hsa := Lib.hid hsa; clear hsa
  have hpa2 := hb.size
  go_wp2_with fail
  refine (new_calls _ [] _ (hnil _) (by simp) (by simp)).mono ?_
  rintro e w3 ⟨pb, lb, rfl, hsb, hnb, hmb, hb2, hpb⟩
  replace hB := hB.tr hb2
  have hpab : pa < pb := Nat.lt_of_lt_of_le Hsa.out.lt hpb
  have Hsa3 := Lib.hid (Hsa.out.gr hb2)
  have Hsb := Lib.hid hsb; clear hsb
  have hla : la = [] := norm_ext hna ⟨by simp, by simp⟩ hma
  have hlb : lb = [] := norm_ext hnb ⟨by simp, by simp⟩ hmb
  subst hla hlb
  clear hna hnb hma hmb hb hb2 hnil Hsa
  have hpb1 : w1.heap.size ≤ pb := by omega
  clear hpb hpa2
  obtain ⟨n, hn1, hn2, hn3⟩ := hmin
  have Hn3 := Lib.hid hn3; clear hn3
  go_upto_if 28 with fail
  go_cut [8] (fun v8 wx => v8 = .int .i64 n ∧ wx = w3)
  case first =>
    by_cases h12 : 12 < (l.length : Int)
    · have hh := Hn3.out; rw [if_pos h12] at hh
      have HH := Lib.hid hh; clear hh
      go_wp2_with fail
      go_meet
      exact ⟨by rw [HH.out], rfl⟩
    · have hh := Hn3.out; rw [if_neg h12] at hh
      have HH := Lib.hid hh; clear hh
      go_wp2_with fail
      go_meet
      exact ⟨by rw [HH.out], rfl⟩
  case rest =>
    obtain ⟨rfl, rfl⟩ := hcut
    clear Hn3
    go_wp2_with fail
    go_loopw [9] (fun i wr => ∃ k : Nat, k ≤ n ∧ i = .int .i64 k ∧ (∃ la, isSet wr pa la ∧ Norm la ∧ ∀ t, memS la t ↔ ∃ j, j < k ∧ inS (spO (l.getD j (0, 0, 0))) t) ∧ (∃ lb, isSet wr pb lb ∧ Norm lb ∧ ∀ t, memS lb t ↔ ∃ j, j < k ∧ inS (spO (l.getD (n - 1 - j) (0, 0, 0))) t) ∧ Gr w1 wr) (fun i _ => n - (intOf i).toNat)
    case atStart => exact ⟨0, Nat.zero_le _, rfl, ⟨[], Hsa3.out, ⟨by simp, by simp⟩, fun t => by simp [memS]⟩, ⟨[], Hsb.out, ⟨by simp, by simp⟩, fun t => by simp [memS]⟩, hB⟩
    case round =>
      obtain ⟨k, hkn, rfl, ⟨la, hsa, hna, hma⟩, ⟨lb, hsb, hnb, hmb⟩, hg⟩ := hrel
      clear Hsa3 Hsb hB
      by_cases hlt : k < n
      · obtain ⟨b, oo, rfl, hc⟩ := hrd (by omega)
        have hk1 : k < l.length := by omega
        have hk2 : n - 1 - k < l.length := by omega
        have c0 := keepc (hG.tr hg) (hc _ _ (encO_get l k hk1).1)
        have c1 := keepc (hG.tr hg) (hc _ _ (encO_get l k hk1).2.1)
        have c2 := keepc (hG.tr hg) (hc _ _ (encO_get l k hk1).2.2)
        have d0 := keepc hG (hc _ _ (encO_get l (n - 1 - k) hk2).1)
        have d1 := keepc hG (hc _ _ (encO_get l (n - 1 - k) hk2).2.1)
        have d2 := keepc hG (hc _ _ (encO_get l (n - 1 - k) hk2).2.2)
        rw [← Nat.add_assoc] at c1 c2 d1 d2
        have hx : l.getD k (0, 0, 0) = l[k] := by simp [List.getD, hk1]
        have hy : l.getD (n - 1 - k) (0, 0, 0) = l[n - 1 - k] := by simp [List.getD, hk2]
        generalize l[k] = x at c0 c1 c2 hx
        generalize l[n - 1 - k] = y at d0 d1 d2 hy
        have Hx := Lib.hid hx; have Hy := Lib.hid hy; clear hx hy
        have Hsa := Lib.hid hsa; have Hsb := Lib.hid hsb; have Hma := Lib.hid hma; have Hmb := Lib.hid hmb
        have Hna := Lib.hid hna; have Hnb := Lib.hid hnb
        clear hsa hsb hma hmb hna hnb hc
        have hxb := spO_bd x
        have hyb := spO_bd y
        go_wp2_with fail
        refine (spanO x _).mono ?_
        rintro e w4 ⟨rfl, hb⟩
        go_wp2_with fail
        refine (add_any (Hsa.out.gr hb) Hna.out (by omega)).mono ?_
        rintro e w5 ⟨la', rfl, hsa', hna', hma', hgb⟩
        have hg5 : Gr w1 w5 := gr_gb (hg.tr hb) hgb (fun k hk => by cases hk; exact hpa)
        have Hsb5 := Lib.hid (((Hsb.out.gr hb)).gb (Hsa.out.gr hb) hgb (by omega))
        have Hsa5 := Lib.hid hsa'
        have Hma5 := Lib.hid hma'
        have Hna5 := Lib.hid hna'
        replace d0 := keepc hg5 d0; replace d1 := keepc hg5 d1; replace d2 := keepc hg5 d2
        clear c0 c1 c2 Hsa Hsb hsa' hma' hna' hgb hb
        go_wp2_with fail
        refine (spanO y _).mono ?_
        rintro e w6 ⟨rfl, hb⟩
        go_wp2_with fail
        refine (add_any (Hsb5.out.gr hb) Hnb.out (by omega)).mono ?_
        rintro e w7 ⟨lb', rfl, hsb', hnb', hmb', hgb⟩
        have hg7 : Gr w1 w7 := gr_gb (hg5.tr hb) hgb (fun k hk => by cases hk; exact hpb1)
        have Hsa7 := Lib.hid (((Hsa5.out.gr hb)).gb (Hsb5.out.gr hb) hgb (by omega))
        have Hsb7 := Lib.hid hsb'
        have Hmb7 := Lib.hid hmb'
        have Hnb7 := Lib.hid hnb'
        clear d0 d1 d2 Hsb5 Hsa5 hsb' hmb' hnb' hgb hb
        go_wp2_with fail
        go_roundw
        case rel => exact ⟨k + 1, by omega, by go_num, ⟨la', Hsa7.out, Hna5.out, fun t => by rw [Hma5.out t, Hma.out t, ex_succ, Hx.out]; rfl⟩, ⟨lb', Hsb7.out, Hnb7.out, fun t => by rw [Hmb7.out t, Hmb.out t, ex_succ, Hy.out]; rfl⟩, hg7⟩
        case measure => simp [intOf]; omega
      · obtain rfl : k = n := by omega
        have hab : la = lb := norm_ext hna hnb (fun t => by
          rw [hma t, hmb t]
          constructor
          · rintro ⟨j, hj, h⟩; exact ⟨k - 1 - j, by omega, by rwa [show k - 1 - (k - 1 - j) = j by omega]⟩
          · rintro ⟨j, hj, h⟩; exact ⟨k - 1 - j, by omega, h⟩)
        subst hab
        have Hsa := Lib.hid hsa; have Hsb := Lib.hid hsb; have Hna := Lib.hid hna
        clear hma hmb hna hnb hsa hsb hrd
        replace o0 := keepc hg o0; replace o1 := keepc hg o1; replace o2 := keepc hg o2
        replace hG := hG.tr hg
        have hpb2 : w1.heap.size ≤ wr.heap.size := hg.size
        have hln := norm_len Hna.out
        go_wp2_with fail
        refine (spans_set Hsa.out (by omega)).mono ?_
        rintro e w4 ⟨va, rfl, hown4, hb⟩
        replace Hsa := Lib.hid (Hsa.out.gr hb); replace Hsb := Lib.hid (Hsb.out.gr hb)
        replace o0 := keepc hb o0; replace o1 := keepc hb o1; replace o2 := keepc hb o2
        replace hG := hG.tr hb
        clear hb
        obtain ⟨a4, c4, rfl⟩ := own_slice hown4
        have Hown4 := Lib.hid hown4; clear hown4
        go_wp2_with fail
        refine (spans_set Hsb.out (by omega)).mono ?_
        rintro e w5 ⟨vb, rfl, hown5, hb⟩
        replace Hsa := Lib.hid (Hsa.out.gr hb); replace Hsb := Lib.hid (Hsb.out.gr hb)
        replace Hown4 := Lib.hid (own_gr Hown4.out hb)
        replace o0 := keepc hb o0; replace o1 := keepc hb o1; replace o2 := keepc hb o2
        replace hG := hG.tr hb
        clear hb
        obtain ⟨a5, c5, rfl⟩ := own_slice hown5
        have Hown5 := Lib.hid hown5; clear hown5
        go_wp2_with fail
        refine (same_calls _ _ la _ (rdRow_of_own Hown4.out) (rdRow_of_own Hown5.out) (by omega)).mono ?_
        rintro e w6 ⟨rfl, hb⟩
        replace Hsa := Lib.hid (Hsa.out.gr hb); replace Hsb := Lib.hid (Hsb.out.gr hb)
        replace o0 := keepc hb o0; replace o1 := keepc hb o1; replace o2 := keepc hb o2
        replace hG := hG.tr hb
        clear hb Hown4 Hown5
        have hso := spanO o
        have hob := spO_bd o
        generalize spO o = s at hso hob
        obtain ⟨c, d⟩ := s
        simp only at hso hob
        have Hso := Lib.hid hso; clear hso
        go_wp2_with fail
        refine (Hso.out _).mono ?_
        rintro e w7 ⟨rfl, hb⟩
        replace Hsa := Lib.hid (Hsa.out.gr (hb.al (.cells #[.int .i64 c, .int .i64 d] 26))); replace Hsb := Lib.hid (Hsb.out.gr (hb.al (.cells #[.int .i64 c, .int .i64 d] 26)))
        replace hG := hG.tr hb
        clear hb o0 o1 o2 Hso
        go_wp2_with fail
        refine (check_calls _ _ _).mono ?_
        rintro e w8 ⟨rfl, hb⟩
        have s0 : w8.cell? ⟨w7.heap.size, 0, none⟩ = some (.int .i64 c) := keepc hb (by simp)
        have s1 : w8.cell? ⟨w7.heap.size, 1, none⟩ = some (.int .i64 d) := keepc hb (by simp)
        replace Hsa := Lib.hid (Hsa.out.gr hb); replace Hsb := Lib.hid (Hsb.out.gr hb)
        have hG7 : Gr w w8 := by (repeat (first | exact Gr.rfl' | refine Gr.al ?_ _ | refine Gr.dr ?_ | refine Gr.drN ?_ | refine Gr.sc ?_ (by simp <;> omega) _ | refine Gr.tr ?_ (by assumption)))
        have h78 : w8.heap.size > w7.heap.size := World.block_lt_of_cell? _ _ s0
        clear hb hG
        by_cases hcx : wCheck (c, d) = 0
        case neg =>
          have hc1 : (wCheck (c, d) != 0) = true := by simp [hcx]
          have Hcx := Lib.hid hcx; clear hcx
          go_wp2_with (first | (go_at_call 37; refine (add_not (.inl Hcx.out)).mono ?_; rintro e w9 ⟨rfl, hb⟩; have s0 := keepc hb s0; have s1 := keepc hb s1; have hG7 := hG7.tr hb) | (go_at_call 35; refine (take_not Hcx.out).mono ?_; rintro e w9 ⟨rfl, hb⟩; have hG7 := hG7.tr hb))
          go_ret
          exact ⟨rfl, by assumption⟩
        have hc1 : (wCheck (c, d) != 0) = false := by simp [hcx]
        have hcd := wCheck_0.1 hcx
        have Hcx := Lib.hid hcx; clear hcx
        go_wp2_with fail
        refine (add_any Hsa.out Hna.out (by omega)).mono ?_
        rintro e w9 ⟨l2, rfl, hs2, hn2, hm2, hgb⟩
        have hpw : w7.heap.size ≠ pa := fun e => by
          have := (Hsa.out.cell); obtain ⟨aa, cc, h, _⟩ := this
          rw [← e, s0] at h; cases h
        have s0' := hgb.cell s0 (fun e => hpw (Option.some.inj e))
        have s1' := hgb.cell s1 (fun e => hpw (Option.some.inj e))
        have hG9 : Gr w w9 := gr_gb hG7 hgb (fun k hk => by cases hk; omega)
        have Hsb9 := Lib.hid (Hsb.out.gb Hsa.out hgb (by omega))
        have Hs2 := Lib.hid hs2; have Hn2 := Lib.hid hn2; have Hm2 := Lib.hid hm2
        clear hs2 hn2 hm2 hgb s0 s1 hG7 Hsa Hsb
        go_wp2_with fail
        refine (size_set Hs2.out (norm_okS Hn2.out)).mono ?_
        rintro e w10 ⟨rfl, hb⟩
        replace Hs2 := Lib.hid (Hs2.out.gr hb); replace Hsb9 := Lib.hid (Hsb9.out.gr hb)
        replace s0' := keepc hb s0'; replace s1' := keepc hb s1'
        replace hG9 := hG9.tr hb
        clear hb
        go_wp2_with fail
        refine (take_n Hs2.out Hn2.out Hcx.out).mono ?_
        rintro e w11 ⟨l3, rfl, hs3, hn3, hm3, hgb⟩
        replace s0' := hgb.cell s0' (fun e => hpw (Option.some.inj e))
        replace s1' := hgb.cell s1' (fun e => hpw (Option.some.inj e))
        have hG11 : Gr w w11 := gr_gb hG9 hgb (fun k hk => by cases hk; omega)
        have Hsb11 := Lib.hid (Hsb9.out.gb Hs2.out hgb (by omega))
        have Hs3 := Lib.hid hs3; have Hn3 := Lib.hid hn3
        have hm4 : ∀ t, memS l3 t ↔ memS la t ∧ ¬ (c ≤ t ∧ t < d) := fun t => by
          rw [hm3 t, Hm2.out t]
          constructor
          · rintro ⟨h1 | h1, h2⟩
            · exact ⟨h1, h2⟩
            · exact absurd h1 h2
          · rintro ⟨h1, h2⟩; exact ⟨.inl h1, h2⟩
        have hsz : decide (szS l3 < szS l2) = decide (c < d) := by
          rw [Bool.eq_iff_iff, decide_eq_true_eq, decide_eq_true_eq, sz_lt hn3 Hn2.out (fun t ht => ((hm3 t).1 ht).1)]
          constructor
          · rintro ⟨t, h1, h2⟩
            rcases Classical.em (c ≤ t ∧ t < d) with h | h
            · omega
            · exact absurd ((hm3 t).2 ⟨h1, h⟩) h2
          · intro h
            exact ⟨c, (Hm2.out c).2 (.inr ⟨by omega, h⟩), fun h2 => ((hm3 c).1 h2).2 ⟨by omega, h⟩⟩
        have hsz2 : szS l3 = szS l2 - (d - c) := sz_sub Hn2.out hn3 (by omega) (by omega) (by omega) (fun t => by
          rw [Hm2.out t, hm3 t, Hm2.out t]
          constructor
          · rintro (h | h)
            · rcases Classical.em (c ≤ t ∧ t < d) with h2 | h2
              · exact .inr h2
              · exact .inl ⟨.inl h, h2⟩
            · exact .inr h
          · rintro (⟨h | h, _⟩ | h)
            · exact .inl h
            · exact .inr h
            · exact .inr h) (fun t ht => ((hm3 t).1 ht).2)
        have Hm4 := Lib.hid hm4
        have Hsz2 := Lib.hid hsz2
        rw [hsz]
        clear hm3 hm4 hsz hsz2 Hm2 hs3 hn3 hgb hG9 Hs2 Hsb9
        go_wp2_with fail
        go_loopw [14] (fun v wr => ∃ t : Int, v = .int .i64 t ∧ 0 ≤ t ∧ t ≤ 470 ∧ Gr w11 wr) (fun v _ => (470 - intOf v).toNat)
        case atStart => exact ⟨0, rfl, by omega, by omega, Gr.rfl'⟩
        case round =>
          obtain ⟨t, rfl, ht0, ht1, hg⟩ := hrel
          replace s0' := keepc hg s0'; replace s1' := keepc hg s1'
          replace hG11 := hG11.tr hg
          replace Hs3 := Lib.hid (Hs3.out.gr hg); replace Hsb11 := Lib.hid (Hsb11.out.gr hg)
          have hl3 := norm_len Hn3.out
          by_cases hlt : t < 470
          · have hA : l3.any (hasB t) = (la.any (hasB t) && !(decide (c ≤ t) && decide (t < d))) := by
              rw [Bool.eq_iff_iff, Bool.and_eq_true, Bool.not_eq_true', memS_any, memS_any, Hm4.out t, Bool.and_eq_false_iff, decide_eq_false_iff_not, decide_eq_false_iff_not]
              constructor
              · rintro ⟨h1, h2⟩; exact ⟨h1, by omega⟩
              · rintro ⟨h1, h2⟩; exact ⟨h1, by omega⟩
            generalize hB : la.any (hasB t) = B at hA
            have HB := Lib.hid hB; clear hB
            have key : ∀ (A : Bool), l3.any (hasB t) = A → (A != (B && !(decide (c ≤ t) && decide (t < d)))) = false := fun A h => by rw [← h, hA]; simp
            have Hkey := Lib.hid key; clear key
            generalize hA2 : l3.any (hasB t) = A at hA
            have HA2 := Lib.hid hA2; clear hA2
            by_cases h1 : c ≤ t <;> by_cases h2 : t < d <;> cases B <;> simp only [h1, h2, decide_true, decide_false, Bool.and_true, Bool.and_false, Bool.not_true, Bool.not_false] at hA <;> subst hA
            all_goals try (exfalso; omega)
            all_goals
              go_wp2_with fail
              refine (has_set Hs3.out (by omega)).mono ?_
              rintro e w12 ⟨rfl, hb⟩
              rw [HA2.out]
              replace Hsb11 := Lib.hid (Hsb11.out.gr hb)
              replace s0' := keepc hb s0'; replace s1' := keepc hb s1'
              replace hg := hg.tr hb
              clear hb
              go_wp2_with fail
              refine (has_set Hsb11.out (by omega)).mono ?_
              rintro e w13 ⟨rfl, hb⟩
              rw [HB.out]
              go_wp2_with fail
              go_roundw
              case rel => exact ⟨t + 1, rfl, by omega, by omega, hg.tr hb⟩
              case measure => simp [intOf]; omega
          · go_wp2_with fail
            have hbz := szS_bd l2 (norm_v Hn2.out)
            have hln2 := norm_len Hn2.out
            have hw1 : IntKind.i64.wrap (d - c) = d - c := IntWalk.i64_in _ (by omega)
            have hw2 : IntKind.i64.wrap (szS l2 - (d - c)) = szS l2 - (d - c) := IntWalk.i64_in _ (by omega)
            have hq : (szS l3 == szS l2 - (d - c)) = true := by rw [Hsz2.out]; simp
            go_region_held3 (fun w' => w'.cell? ⟨w7.heap.size, 0, none⟩ = some (.int .i64 c) ∧ w'.cell? ⟨w7.heap.size, 1, none⟩ = some (.int .i64 d))
              (first | (go_keep; done) | (refine ⟨keepc hb ?_, keepc hb ?_⟩ <;> (simp [*]; done)) | (refine ⟨hgb.cell ?_ (fun e => hpw (Option.some.inj e)), hgb.cell ?_ (fun e => hpw (Option.some.inj e))⟩ <;> (simp [*]; done)))
              (first | (go_at_call 40; refine (size_set (Hs3.out.gr (Gr.dr Gr.rfl')) (norm_okS Hn3.out)).mono ?_; rintro e w12 ⟨rfl, hb⟩; have hsz3 := Hsz2.out) | (go_at_call 35; refine (take_n (Hs3.out.gr ((Gr.dr Gr.rfl').tr hb)) Hn3.out Hcx.out).mono ?_; rintro e w13 ⟨l4, rfl, hs4, hn4, hm5, hgb⟩))
            have h43 : l4 = l3 := norm_ext hn4 Hn3.out (fun t => by
              rw [hm5 t]; exact ⟨fun h => h.1, fun h => ⟨h, ((Hm4.out t).1 h).2⟩⟩)
            have hend : (!decide (szS l4 < szS l2 - (d - c))) = true := by rw [h43, Hsz2.out]; simp
            have Hend := Lib.hid hend
            have hGz := gr_gb (hG11.tr ((Gr.dr Gr.rfl').tr hb)) hgb (fun k hk => by cases hk; omega)
            clear h43 hend hm5 hs4 hn4 hgb
            go_wp2
            go_ret
            exact ⟨ret_b rfl Hend.out, hGz⟩
end Go.Proofs.Ytafdddakkenlaaa

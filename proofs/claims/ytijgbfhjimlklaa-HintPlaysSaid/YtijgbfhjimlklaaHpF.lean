/- The reference's hints: which point is told ahead of which. -/
import Derived.Test.YtijgbfhjimlklaaHpE
import Derived.Test.YtijgbfhjimlklaaJn
namespace Go.Proofs.Ytijgbfhjimlklaa
open Go.RowKit Go.Maps Go.Sort

abbrev stC (p : Pt) : List Value := [.int .i64 p.c, .int .i64 p.st, .int .i64 p.q]
instance (a b : Pt) : Decidable (ltN a b) := by unfold ltN; exact inferInstance
instance (a b : Pt) : Decidable (ltH a b) := by unfold ltH; exact inferInstance
theorem pt_st {w : World} {b o : Nat} {x : Pt} (h : w.rangeAt b o (ptC x)) : w.rangeAt b (o + 3) (stC x) := fun j u hu => by
  have hj : j < 3 := (List.getElem?_eq_some_iff.1 hu).1
  rw [Nat.add_assoc]
  refine h (3 + j) u ?_
  match j, hj with
  | 0, _ | 1, _ | 2, _ => exact hu
theorem ltH_bef {a b : Pt} (h : bef a b) : ltH a b := by
  unfold bef at h
  unfold ltH ltN
  rcases h with h | ⟨h1, h2⟩
  · exact .inl h
  · exact .inr ⟨h1, .inl h2⟩
theorem ahead_cases (a b : Pt) : (bef a b ∧ ltH a b) ∨ (¬ bef a b ∧ bef b a ∧ ¬ ltH a b)
    ∨ (¬ bef a b ∧ ¬ bef b a ∧ decide (a.c = b.c ∧ a.st = b.st ∧ a.q = b.q) = false ∧ decide (lessT a b) = decide (ltH a b))
    ∨ (¬ bef a b ∧ ¬ bef b a ∧ decide (a.c = b.c ∧ a.st = b.st ∧ a.q = b.q) = true ∧ decide (a.v < b.v) = decide (ltH a b)) := by
  by_cases h1 : bef a b
  · exact .inl ⟨h1, ltH_bef h1⟩
  · by_cases h2 : bef b a
    · exact .inr (.inl ⟨h1, h2, fun z => ltH_irr _ (ltH_tr z (ltH_bef h2))⟩)
    · have hs : a.s = b.s := by
        rcases sb_tri a.s b.s with h | h | h
        · exact absurd (.inl h) h1
        · exact h
        · exact absurd (.inl h) h2
      have ht : a.t = b.t := by
        unfold bef at h1 h2
        have g1 : ¬ a.t < b.t := fun z => h1 (.inr ⟨hs, z⟩)
        have g2 : ¬ b.t < a.t := fun z => h2 (.inr ⟨hs.symm, z⟩)
        omega
      have e : ltH a b ↔ ltN a b := by
        unfold ltH
        exact ⟨fun z => z.elim (fun z => absurd z (by rw [hs]; exact sb_irr _)) And.right, fun z => .inr ⟨hs, z⟩⟩
      by_cases h3 : a.c = b.c ∧ a.st = b.st ∧ a.q = b.q
      · refine .inr (.inr (.inr ⟨h1, h2, decide_eq_true h3, decide_eq_decide.2 ?_⟩))
        rw [e]; unfold ltN; omega
      · refine .inr (.inr (.inl ⟨h1, h2, decide_eq_false h3, decide_eq_decide.2 ?_⟩))
        rw [e]; unfold ltN lessT; omega
theorem run_neq_st (a b : Pt) (w : World) : (binOp .neq 29 (stV a) (stV b)).run Try.prog w = .ok (.bool (!decide (a.c = b.c ∧ a.st = b.st ∧ a.q = b.q))) w := by
  have h : (binOp .neq 29 (.agg #[.int .i64 a.c, .int .i64 a.st, .int .i64 a.q]) (.agg #[.int .i64 b.c, .int .i64 b.st, .int .i64 b.q])).run Try.prog w = .ok (.bool (!decide (a.c = b.c ∧ a.st = b.st ∧ a.q = b.q))) w := by
    go_simp
    repeat' split
    all_goals simp_all
  exact h
theorem wpList_neq_st {w : World} {ops : Array Oper} {rest : List Oper} {o : Oper} {c : Act} {Q : Exit → Act → World → Prop} (hg : o.guard = none) (x y : Operand) (ho : o.op = .binOp .neq 29 x y 29)
    (a b : Pt) (hx : c.eval x = stV a) (hy : c.eval y = stV b) (h : wpList Try.prog ops Q rest (c.put o.dst (.bool (!decide (a.c = b.c ∧ a.st = b.st ∧ a.q = b.q)))) w) : wpList Try.prog ops Q (o :: rest) c w := by
  refine wpList_plain hg fun K hK => ?_
  unfold Oper.wp execOp
  have hr := run_neq_st a b w
  have he : (eqGuard .neq 29 x y (stV a) (stV b)).run Try.prog w = .ok () w := by go_simp
  simp only [ho, hx, hy, Sem.run_bind, he, hr, Result.andThen_ok, Sem.run_pure]
  exact hK _ _ h
set_option maxRecDepth 100000 in
set_option maxHeartbeats 4000000 in
theorem ahead_calls (a b : Pt) (w : World) : Calls Try.prog 41 #[ptV a, ptV b] w fun e w' => e = .returned (.bool (decide (ltH a b))) ∧ Gr w w' := by
  have Hb1 := Lib.hid (fun W => rbefore_calls a b W)
  have Hb2 := Lib.hid (fun W => rbefore_calls b a W)
  rcases ahead_cases a b with ⟨h1, hr⟩ | ⟨h1, h2, hr⟩ | h
  · rw [decide_eq_true h1] at Hb1
    rw [decide_eq_true hr]
    clear h1 hr
    generalize decide (bef b a) = y at *
    go_enter Try.func41, Try.ntmps41
    go_wp2_with fail
    obtain ⟨wa, ea, hga, ba, sa⟩ := al_out w (.cells #[.string a.s, .int .i64 a.t, .int .i64 a.v, .int .i64 a.c, .int .i64 a.st, .int .i64 a.q] 31)
    rw [ea]
    obtain ⟨wb, eb, hgb, bb, sb2⟩ := al_out wa (.cells #[.string b.s, .int .i64 b.t, .int .i64 b.v, .int .i64 b.c, .int .i64 b.st, .int .i64 b.q] 31)
    rw [eb]
    obtain ⟨A, eA⟩ : ∃ A, w.heap.size = A := ⟨_, rfl⟩
    obtain ⟨B, eB⟩ : ∃ A, wa.heap.size = A := ⟨_, rfl⟩
    rw [eA] at ba sa
    have eB2 : A + 1 = B := by omega
    (try rw [eA])
    (try rw [eB])
    (try rw [eB2])
    rw [eB] at bb
    have BA := Lib.hid (hgb.blk ba); have BB := Lib.hid bb
    have GB := Lib.hid (hga.tr hgb)
    clear ea hga ba sa eb hgb bb sb2 eA eB eB2
    go_wp2_with (first | (refine wpList_load_rowg (by rfl) 31 (.tmp 2) rfl A rfl _ (ptC a).toArray (0, 0) _ BA.out Try.underlying31 rfl info_pt ?_) | (refine wpList_load_rowg (by rfl) 31 (.tmp 3) rfl B rfl _ (ptC b).toArray (0, 0) _ BB.out Try.underlying31 rfl info_pt ?_))
    refine (Hb1.out _).mono ?_
    rintro e w1 ⟨rfl, hgw⟩
    have G1 := Lib.hid hgw.gr
    have BA1 := Lib.hid (G1.out.blk BA.out); have BB1 := Lib.hid (G1.out.blk BB.out)
    clear hgw
    go_wp2_with (first | (refine wpList_load_rowg (by rfl) 31 (.tmp 2) rfl A rfl _ (ptC a).toArray (0, 0) _ BA1.out Try.underlying31 rfl info_pt ?_) | (refine wpList_load_rowg (by rfl) 31 (.tmp 3) rfl B rfl _ (ptC b).toArray (0, 0) _ BB1.out Try.underlying31 rfl info_pt ?_))
    refine (Hb2.out _).mono ?_
    rintro e w2 ⟨rfl, hgw⟩
    have G2 := Lib.hid (G1.out.tr hgw.gr)
    have RA := Lib.hid (pt_st (rangeAt_blk (G2.out.blk BA.out) 0 (ptC a) (fun j u h => by rw [Nat.zero_add]; simpa using h)))
    have RB := Lib.hid (pt_st (rangeAt_blk (G2.out.blk BB.out) 0 (ptC b) (fun j u h => by rw [Nat.zero_add]; simpa using h)))
    have GZ := Lib.hid (GB.out.tr G2.out)
    rw [Nat.zero_add] at RA RB
    clear hgw
    go_wp2_with fail
    go_ret
    exact ⟨rfl, GZ.out⟩
  · rw [decide_eq_false h1] at Hb1
    rw [decide_eq_true h2] at Hb2
    rw [decide_eq_false hr]
    clear h1 h2 hr
    go_enter Try.func41, Try.ntmps41
    go_wp2_with fail
    obtain ⟨wa, ea, hga, ba, sa⟩ := al_out w (.cells #[.string a.s, .int .i64 a.t, .int .i64 a.v, .int .i64 a.c, .int .i64 a.st, .int .i64 a.q] 31)
    rw [ea]
    obtain ⟨wb, eb, hgb, bb, sb2⟩ := al_out wa (.cells #[.string b.s, .int .i64 b.t, .int .i64 b.v, .int .i64 b.c, .int .i64 b.st, .int .i64 b.q] 31)
    rw [eb]
    obtain ⟨A, eA⟩ : ∃ A, w.heap.size = A := ⟨_, rfl⟩
    obtain ⟨B, eB⟩ : ∃ A, wa.heap.size = A := ⟨_, rfl⟩
    rw [eA] at ba sa
    have eB2 : A + 1 = B := by omega
    (try rw [eA])
    (try rw [eB])
    (try rw [eB2])
    rw [eB] at bb
    have BA := Lib.hid (hgb.blk ba); have BB := Lib.hid bb
    have GB := Lib.hid (hga.tr hgb)
    clear ea hga ba sa eb hgb bb sb2 eA eB eB2
    go_wp2_with (first | (refine wpList_load_rowg (by rfl) 31 (.tmp 2) rfl A rfl _ (ptC a).toArray (0, 0) _ BA.out Try.underlying31 rfl info_pt ?_) | (refine wpList_load_rowg (by rfl) 31 (.tmp 3) rfl B rfl _ (ptC b).toArray (0, 0) _ BB.out Try.underlying31 rfl info_pt ?_))
    refine (Hb1.out _).mono ?_
    rintro e w1 ⟨rfl, hgw⟩
    have G1 := Lib.hid hgw.gr
    have BA1 := Lib.hid (G1.out.blk BA.out); have BB1 := Lib.hid (G1.out.blk BB.out)
    clear hgw
    go_wp2_with (first | (refine wpList_load_rowg (by rfl) 31 (.tmp 2) rfl A rfl _ (ptC a).toArray (0, 0) _ BA1.out Try.underlying31 rfl info_pt ?_) | (refine wpList_load_rowg (by rfl) 31 (.tmp 3) rfl B rfl _ (ptC b).toArray (0, 0) _ BB1.out Try.underlying31 rfl info_pt ?_))
    refine (Hb2.out _).mono ?_
    rintro e w2 ⟨rfl, hgw⟩
    have G2 := Lib.hid (G1.out.tr hgw.gr)
    have RA := Lib.hid (pt_st (rangeAt_blk (G2.out.blk BA.out) 0 (ptC a) (fun j u h => by rw [Nat.zero_add]; simpa using h)))
    have RB := Lib.hid (pt_st (rangeAt_blk (G2.out.blk BB.out) 0 (ptC b) (fun j u h => by rw [Nat.zero_add]; simpa using h)))
    have GZ := Lib.hid (GB.out.tr G2.out)
    rw [Nat.zero_add] at RA RB
    clear hgw
    go_wp2_with fail
    go_ret
    exact ⟨rfl, GZ.out⟩
  · have hne := Lib.hid (fun W => run_neq_st a b W)
    rcases h with ⟨h1, h2, h3, hr⟩ | ⟨h1, h2, h3, hr⟩
    all_goals
      rw [decide_eq_false h1] at Hb1
      rw [decide_eq_false h2] at Hb2
      rw [← hr]
      have H3 := Lib.hid h3
      clear h1 h2 hr h3 hne
    rotate_right
    · skip
      go_enter Try.func41, Try.ntmps41
      go_wp2_with fail
      obtain ⟨wa, ea, hga, ba, sa⟩ := al_out w (.cells #[.string a.s, .int .i64 a.t, .int .i64 a.v, .int .i64 a.c, .int .i64 a.st, .int .i64 a.q] 31)
      rw [ea]
      obtain ⟨wb, eb, hgb, bb, sb2⟩ := al_out wa (.cells #[.string b.s, .int .i64 b.t, .int .i64 b.v, .int .i64 b.c, .int .i64 b.st, .int .i64 b.q] 31)
      rw [eb]
      obtain ⟨A, eA⟩ : ∃ A, w.heap.size = A := ⟨_, rfl⟩
      obtain ⟨B, eB⟩ : ∃ A, wa.heap.size = A := ⟨_, rfl⟩
      rw [eA] at ba sa
      have eB2 : A + 1 = B := by omega
      (try rw [eA])
      (try rw [eB])
      (try rw [eB2])
      rw [eB] at bb
      have BA := Lib.hid (hgb.blk ba); have BB := Lib.hid bb
      have GB := Lib.hid (hga.tr hgb)
      clear ea hga ba sa eb hgb bb sb2 eA eB eB2
      go_wp2_with (first | (refine wpList_load_rowg (by rfl) 31 (.tmp 2) rfl A rfl _ (ptC a).toArray (0, 0) _ BA.out Try.underlying31 rfl info_pt ?_) | (refine wpList_load_rowg (by rfl) 31 (.tmp 3) rfl B rfl _ (ptC b).toArray (0, 0) _ BB.out Try.underlying31 rfl info_pt ?_))
      refine (Hb1.out _).mono ?_
      rintro e w1 ⟨rfl, hgw⟩
      have G1 := Lib.hid hgw.gr
      have BA1 := Lib.hid (G1.out.blk BA.out); have BB1 := Lib.hid (G1.out.blk BB.out)
      clear hgw
      go_wp2_with (first | (refine wpList_load_rowg (by rfl) 31 (.tmp 2) rfl A rfl _ (ptC a).toArray (0, 0) _ BA1.out Try.underlying31 rfl info_pt ?_) | (refine wpList_load_rowg (by rfl) 31 (.tmp 3) rfl B rfl _ (ptC b).toArray (0, 0) _ BB1.out Try.underlying31 rfl info_pt ?_))
      refine (Hb2.out _).mono ?_
      rintro e w2 ⟨rfl, hgw⟩
      have G2 := Lib.hid (G1.out.tr hgw.gr)
      have RA := Lib.hid (pt_st (rangeAt_blk (G2.out.blk BA.out) 0 (ptC a) (fun j u h => by rw [Nat.zero_add]; simpa using h)))
      have RB := Lib.hid (pt_st (rangeAt_blk (G2.out.blk BB.out) 0 (ptC b) (fun j u h => by rw [Nat.zero_add]; simpa using h)))
      have GZ := Lib.hid (GB.out.tr G2.out)
      rw [Nat.zero_add] at RA RB
      clear hgw
      have va := cell_of_row w2 A 2 _ _ _ (G2.out.blk BA.out)
      have vb := cell_of_row w2 B 2 _ _ _ (G2.out.blk BB.out)
      go_wp2_with (first | (refine wpList_load_mid rfl 29 (.tmp 18) rfl A 3 rfl (stC a) _ RA.out Try.underlying29 rfl info_st ?_) | (refine wpList_load_mid rfl 29 (.tmp 20) rfl B 3 rfl (stC b) _ RB.out Try.underlying29 rfl info_st ?_) | (refine wpList_neq_st rfl (.tmp 19) (.tmp 21) rfl a b rfl rfl ?_; rw [H3.out]))
      go_ret
      exact ⟨rfl, GZ.out⟩
    · skip
      go_enter Try.func41, Try.ntmps41
      go_wp2_with fail
      obtain ⟨wa, ea, hga, ba, sa⟩ := al_out w (.cells #[.string a.s, .int .i64 a.t, .int .i64 a.v, .int .i64 a.c, .int .i64 a.st, .int .i64 a.q] 31)
      rw [ea]
      obtain ⟨wb, eb, hgb, bb, sb2⟩ := al_out wa (.cells #[.string b.s, .int .i64 b.t, .int .i64 b.v, .int .i64 b.c, .int .i64 b.st, .int .i64 b.q] 31)
      rw [eb]
      obtain ⟨A, eA⟩ : ∃ A, w.heap.size = A := ⟨_, rfl⟩
      obtain ⟨B, eB⟩ : ∃ A, wa.heap.size = A := ⟨_, rfl⟩
      rw [eA] at ba sa
      have eB2 : A + 1 = B := by omega
      (try rw [eA])
      (try rw [eB])
      (try rw [eB2])
      rw [eB] at bb
      have BA := Lib.hid (hgb.blk ba); have BB := Lib.hid bb
      have GB := Lib.hid (hga.tr hgb)
      clear ea hga ba sa eb hgb bb sb2 eA eB eB2
      go_wp2_with (first | (refine wpList_load_rowg (by rfl) 31 (.tmp 2) rfl A rfl _ (ptC a).toArray (0, 0) _ BA.out Try.underlying31 rfl info_pt ?_) | (refine wpList_load_rowg (by rfl) 31 (.tmp 3) rfl B rfl _ (ptC b).toArray (0, 0) _ BB.out Try.underlying31 rfl info_pt ?_))
      refine (Hb1.out _).mono ?_
      rintro e w1 ⟨rfl, hgw⟩
      have G1 := Lib.hid hgw.gr
      have BA1 := Lib.hid (G1.out.blk BA.out); have BB1 := Lib.hid (G1.out.blk BB.out)
      clear hgw
      go_wp2_with (first | (refine wpList_load_rowg (by rfl) 31 (.tmp 2) rfl A rfl _ (ptC a).toArray (0, 0) _ BA1.out Try.underlying31 rfl info_pt ?_) | (refine wpList_load_rowg (by rfl) 31 (.tmp 3) rfl B rfl _ (ptC b).toArray (0, 0) _ BB1.out Try.underlying31 rfl info_pt ?_))
      refine (Hb2.out _).mono ?_
      rintro e w2 ⟨rfl, hgw⟩
      have G2 := Lib.hid (G1.out.tr hgw.gr)
      have RA := Lib.hid (pt_st (rangeAt_blk (G2.out.blk BA.out) 0 (ptC a) (fun j u h => by rw [Nat.zero_add]; simpa using h)))
      have RB := Lib.hid (pt_st (rangeAt_blk (G2.out.blk BB.out) 0 (ptC b) (fun j u h => by rw [Nat.zero_add]; simpa using h)))
      have GZ := Lib.hid (GB.out.tr G2.out)
      rw [Nat.zero_add] at RA RB
      clear hgw
      go_wp2_with (first | (refine wpList_load_mid rfl 29 (.tmp 18) rfl A 3 rfl (stC a) _ RA.out Try.underlying29 rfl info_st ?_) | (refine wpList_load_mid rfl 29 (.tmp 20) rfl B 3 rfl (stC b) _ RB.out Try.underlying29 rfl info_st ?_) | (refine wpList_load_mid rfl 29 (.tmp 23) rfl A 3 rfl (stC a) _ RA.out Try.underlying29 rfl info_st ?_) | (refine wpList_load_mid rfl 29 (.tmp 25) rfl B 3 rfl (stC b) _ RB.out Try.underlying29 rfl info_st ?_) | (refine wpList_neq_st rfl (.tmp 19) (.tmp 21) rfl a b rfl rfl ?_; rw [H3.out]))
      refine (rless_calls a b _).mono ?_
      rintro e w3 ⟨rfl, hgw⟩
      have G3 := Lib.hid (GZ.out.tr hgw.gr)
      clear hgw
      go_wp2_with fail
      go_ret
      exact ⟨rfl, G3.out⟩
end Go.Proofs.Ytijgbfhjimlklaa

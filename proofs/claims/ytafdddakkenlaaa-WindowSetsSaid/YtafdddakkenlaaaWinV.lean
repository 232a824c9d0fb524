import Derived.Test.YtafdddakkenlaaaWinU
namespace Go.Proofs.Ytafdddakkenlaaa
open Go.RowKit Go.Sort
attribute [local go_sem ↓] field26_0 field26_1

/-- The program's set and the reference's have the same times. -/
def Inv (w1 : World) (pa pb : Nat) (wx : World) : Prop := ∃ (l : List Sp) (B : List Bool), isSet wx pa l ∧ Norm l ∧ isRef wx w1.heap.size pb B ∧ (∀ t : Int, memS l t ↔ 0 ≤ t ∧ gB B t.toNat = true) ∧ B.length ≤ 1000 ∧ Gr w1 wx
theorem Inv.gr {w1 w w' : World} {pa pb : Nat} (h : Inv w1 pa pb w) (hg : Gr w w') : Inv w1 pa pb w' := by
  obtain ⟨l, B, h1, h2, h3, h4, h5, h6⟩ := h
  exact ⟨l, B, h1.gr hg, h2, h3.gr hg, h4, h5, h6.tr hg⟩
def CutS (w1 : World) (pa pb : Nat) (v : Value) (wx : World) : Prop := v = .bool true ∧ Inv w1 pa pb wx

theorem gB_lt {B : List Bool} {t : Nat} (h : gB B t = true) : t < B.length := by
  rcases Nat.lt_or_ge t B.length with h1 | h1
  · exact h1
  · unfold gB List.getD at h; rw [List.getElem?_eq_none h1] at h; cases h
theorem spans_eq {l : List Sp} {B : List Bool} (hn : Norm l) (hB : B.length ≤ 1000) (hm : ∀ t : Int, memS l t ↔ 0 ≤ t ∧ gB B t.toNat = true) : spansB B B.length = l := by
  obtain ⟨h1, h2, _⟩ := spansB_norm B B.length hB
  refine norm_ext h1 hn (fun t => ?_)
  rw [h2 t, hm t]
  constructor
  · rintro ⟨a, _, c⟩; exact ⟨a, c⟩
  · rintro ⟨a, c⟩; have := gB_lt c; exact ⟨a, by omega, c⟩

/-- Add and Mark tell the same. -/
theorem add_mark {l l2 : List Sp} {B B2 : List Bool} {c d : Int} {r : Bool} (hn : Norm l) (hn2 : Norm l2) (hc : 0 ≤ c) (hm : ∀ t : Int, memS l t ↔ 0 ≤ t ∧ gB B t.toNat = true) (hm2 : ∀ t, memS l2 t ↔ memS l t ∨ (c ≤ t ∧ t < d))
    (hr : r = true ↔ ∃ t : Nat, c ≤ t ∧ (t : Int) < d ∧ gB B t ≠ true) (hB2 : ∀ t : Nat, gB B2 t = if c ≤ t ∧ (t : Int) < d then true else gB B t) :
    (decide (szS l < szS l2) == r) = true ∧ ∀ t : Int, memS l2 t ↔ 0 ≤ t ∧ gB B2 t.toNat = true := by
  constructor
  · rw [beq_iff_eq, Bool.eq_iff_iff, decide_eq_true_eq, sz_lt hn hn2 (fun t ht => (hm2 t).2 (.inl ht)), hr]
    constructor
    · rintro ⟨t, h1, h2⟩
      rcases (hm2 t).1 h1 with h | h
      · exact absurd h h2
      · obtain ⟨n, rfl⟩ := Int.eq_ofNat_of_zero_le (show 0 ≤ t by omega)
        exact ⟨n, h.1, h.2, fun h3 => h2 ((hm n).2 ⟨by omega, h3⟩)⟩
    · rintro ⟨t, h1, h2, h3⟩
      exact ⟨t, (hm2 t).2 (.inr ⟨h1, h2⟩), fun h => h3 ((hm t).1 h).2⟩
  · intro t
    rw [hm2 t, hm t]
    constructor
    · rintro (⟨h1, h2⟩ | h)
      · refine ⟨h1, ?_⟩; rw [hB2]; split
        · rfl
        · exact h2
      · exact ⟨by omega, by rw [hB2, if_pos (by omega)]⟩
    · rintro ⟨h1, h2⟩
      rw [hB2] at h2
      split at h2
      · exact .inr (by omega)
      · exact .inl ⟨h1, h2⟩
theorem take_mark {l l2 : List Sp} {B B2 : List Bool} {c d : Int} {r : Bool} (hn : Norm l) (hn2 : Norm l2) (_ : 0 ≤ c) (hm : ∀ t : Int, memS l t ↔ 0 ≤ t ∧ gB B t.toNat = true) (hm2 : ∀ t, memS l2 t ↔ memS l t ∧ ¬ (c ≤ t ∧ t < d))
    (hr : r = true ↔ ∃ t : Nat, c ≤ t ∧ (t : Int) < d ∧ gB B t ≠ false) (hB2 : ∀ t : Nat, gB B2 t = if c ≤ t ∧ (t : Int) < d then false else gB B t) :
    (decide (szS l2 < szS l) == r) = true ∧ ∀ t : Int, memS l2 t ↔ 0 ≤ t ∧ gB B2 t.toNat = true := by
  constructor
  · rw [beq_iff_eq, Bool.eq_iff_iff, decide_eq_true_eq, sz_lt hn2 hn (fun t ht => ((hm2 t).1 ht).1), hr]
    constructor
    · rintro ⟨t, h1, h2⟩
      have h3 := (hm t).1 h1
      rcases Classical.em (c ≤ t ∧ t < d) with h | h
      · obtain ⟨n, rfl⟩ := Int.eq_ofNat_of_zero_le h3.1
        exact ⟨n, h.1, h.2, by have := h3.2; simp at this; simp [this]⟩
      · exact absurd ((hm2 t).2 ⟨h1, h⟩) h2
    · rintro ⟨t, h1, h2, h3⟩
      exact ⟨t, (hm t).2 ⟨by omega, by simpa using h3⟩, fun h => ((hm2 t).1 h).2 ⟨h1, h2⟩⟩
  · intro t
    rw [hm2 t, hm t]
    constructor
    · rintro ⟨⟨h1, h2⟩, h3⟩
      exact ⟨h1, by rw [hB2, if_neg (by omega)]; exact h2⟩
    · rintro ⟨h1, h2⟩
      rw [hB2] at h2
      split at h2
      · cases h2
      · exact ⟨⟨h1, h2⟩, by omega⟩

theorem take_markx {l l2 : List Sp} {B B2 : List Bool} {c d : Int} {r : Bool} (hn : Norm l) (hn2 : Norm l2) (hb : 0 ≤ c ∧ c ≤ 1000 ∧ d ≤ 1000) (hm : ∀ t : Int, memS l t ↔ 0 ≤ t ∧ gB B t.toNat = true) (hm2 : wCheck (c, d) = 0 ∧ (∀ t, memS l2 t ↔ memS l t ∧ ¬ (c ≤ t ∧ t < d)) ∨ wCheck (c, d) ≠ 0 ∧ l2 = l)
    (hr : r = true ↔ ∃ t : Nat, c ≤ t ∧ (t : Int) < d ∧ gB B t ≠ false) (hB2 : ∀ t : Nat, gB B2 t = if c ≤ t ∧ (t : Int) < d then false else gB B t) :
    (decide (szS l2 < szS l) == r) = true ∧ ∀ t : Int, memS l2 t ↔ 0 ≤ t ∧ gB B2 t.toNat = true := by
  rcases hm2 with ⟨_, h⟩ | ⟨h, rfl⟩
  · exact take_mark hn hn2 hb.1 hm h hr hB2
  · have hcd : d < c := by
      rcases Int.lt_or_le d c with h1 | h1
      · exact h1
      · exact absurd (wCheck_0.2 ⟨hb.1, h1, by omega⟩) h
    exact take_mark hn hn hb.1 hm (fun t => ⟨fun h => ⟨h, by omega⟩, fun h => h.1⟩) hr hB2

theorem mark_any {base pb : Nat} {B : List Bool} {c d : Int} {i : Bool} {w : World} (h : isRef w base pb B) (hc : 0 ≤ c ∧ c ≤ 1000) (hd : d ≤ 1000) (hB : B.length ≤ 1000) (hbw : base ≤ w.heap.size) :
    Calls Try.prog 36 #[.pointer (some ⟨pb, 0, none⟩), .agg #[.int .i64 c, .int .i64 d], .bool i] w (MarkPost base pb B c d i w) := by
  by_cases hs : wCheck (c, d) = 0
  · exact mark_calls h hs hd hB hbw
  · refine (mark_not hs).mono ?_
    rintro e w' ⟨rfl, hg⟩
    have hcd : d < c := by
      rcases Int.lt_or_le d c with h | h
      · exact h
      · exact absurd (wCheck_0.2 ⟨hc.1, h, by omega⟩) hs
    exact ⟨B, false, rfl, by simp; intro t h1 h2; omega, h.gr hg, fun t => by rw [if_neg (by omega)], hB, hg.mono hbw, FT.gr FT.rfl' hg⟩

set_option maxRecDepth 100000 in
set_option maxHeartbeats 4000000 in
theorem sets_law (v : Value) (l : List Op3) (t : Int) (w : World) (hv : rdRow w 3 v l.length (encO l)) (hm : l.length ≤ maxLen) :
    Calls Try.prog 7 #[v, .int .i64 t] w fun e w' => e = .returned (.bool true) ∧ Gr w w' := by
  obtain ⟨_, a, cap, rfl, hcap, hrd⟩ := hv
  unfold maxLen at hm
  go_enter Try.func7, Try.ntmps7
  go_wp2_with fail
  refine (awake_calls _).mono ?_
  rintro e w1 ⟨rfl, hG⟩
  have hnil : ∀ W : World, rdRow W 2 (.slice none 0 0) ([] : List Sp).length (encS []) := fun W => ⟨rfl, none, 0, rfl, Nat.le_refl _, fun h => absurd h (by simp)⟩
  go_wp2_with fail
  refine (new_calls _ [] _ (hnil _) (by simp) (by simp)).mono ?_
  rintro e w2 ⟨pa, la, rfl, hsa, hna, hma, hb, hpa⟩
  have hla : la = [] := norm_ext hna ⟨by simp, by simp⟩ hma
  subst hla
  have hpab : pa ≠ w2.heap.size := Nat.ne_of_lt hsa.lt
  have hb2 := hb.size
  have hinv : Inv w1 pa w2.heap.size (w2.alloc (.cells #[.slice none 0 0] 55)) :=
    ⟨[], [], hsa.gr (Gr.al Gr.rfl' _), ⟨by simp, by simp⟩, ⟨none, 0, 0, heap_alloc_new w2 _, by omega, World.ownsRow_nil _ _ _ _⟩, fun t => by simp [memS, gB], by simp, hb.al _⟩
  have Hinv := Lib.hid hinv
  clear hinv hsa hna hma hb hnil
  go_wp2_with fail
  go_loopw [8] (fun i wr => ∃ k : Nat, k ≤ l.length ∧ k ≤ 40 ∧ i = .int .i64 k ∧ Inv w1 pa w2.heap.size wr) (fun i _ => 40 - (intOf i).toNat)
  case atStart => exact ⟨0, Nat.zero_le _, by omega, rfl, Hinv.out⟩
  case round =>
    obtain ⟨k, hkl, hk40, rfl, hinv⟩ := hrel
    clear Hinv
    obtain ⟨wo, rfl⟩ : ∃ wo : World, wo = wr := ⟨_, rfl⟩
    generalize w2.heap.size = pb at hpab hb2 hinv
    have HI := Lib.hid hinv; clear hinv
    by_cases hlt : k < l.length
    · by_cases hlt2 : k < 40
      · have hki : (k : Int) < (l.length : Int) := by omega
        have hki2 : (k : Int) < 40 := by omega
        have hg : Gr w1 wo := by obtain ⟨_, _, _, _, _, _, _, h⟩ := HI.out; exact h
        obtain ⟨b, oo, rfl, hc⟩ := hrd (by omega)
        have c0 := keepc (hG.tr hg) (hc _ _ (encO_get l k hlt).1)
        have c1 := keepc (hG.tr hg) (hc _ _ (encO_get l k hlt).2.1)
        have c2 := keepc (hG.tr hg) (hc _ _ (encO_get l k hlt).2.2)
        rw [← Nat.add_assoc] at c1 c2
        generalize l[k] = x at c0 c1 c2
        have hxb := spO_bd x
        clear hc
        go_wp2_with fail
        refine (spanO x _).mono ?_
        rintro e w4 ⟨rfl, hb⟩
        have k0 : w4.cell? ⟨wo.heap.size, 0, none⟩ = some (.int .i64 x.1) := keepc hb (by simp)
        replace k0 := fun y => keepc (Gr.al Gr.rfl' y) k0
        have HI4 := Lib.hid ((HI.out.gr (Gr.tr (Gr.al Gr.rfl' _) hb)).gr (Gr.al Gr.rfl' (.cells #[.int .i64 (spO x).1, .int .i64 (spO x).2] 26)))
        clear hb HI c0 c1 c2 hg
        have blk := heap_alloc_new w4 (.cells #[.int .i64 (spO x).1, .int .i64 (spO x).2] 26)
        generalize spO x = s at *
        obtain ⟨c, d⟩ := s
        simp only at hxb blk HI4
        have Blk := Lib.hid blk; clear blk
        have hkb := tmod_bd x.1 3 (by omega)
        have hkd : ∃ kd : Int, x.1.tmod 3 = kd ∧ IntKind.i64.wrap (x.1.tmod 3) = kd := ⟨_, rfl, IntWalk.i64_in _ (by omega)⟩
        obtain ⟨kd, hk1, hk2⟩ := hkd
        have hk3 : (kd == 2) = true ∨ (kd == 2) = false ∧ (kd == -2) = true ∨ (kd == 2) = false ∧ (kd == -2) = false := by
          cases kd == 2 <;> cases kd == -2 <;> simp
        go_upto_region 13 with fail
        generalize w4.alloc (.cells #[.int .i64 c, .int .i64 d] 26) = w5 at *
        generalize w4.heap.size = p10 at *
        have x0 : w5.cell? ⟨p10, 0, none⟩ = some (.int .i64 c) := by rw [cell_of_row w5 p10 0 _ _ _ Blk.out]; rfl
        have x1 : w5.cell? ⟨p10, 1, none⟩ = some (.int .i64 d) := by rw [cell_of_row w5 p10 1 _ _ _ Blk.out]; rfl
        clear k0
        go_cut [48] (fun v wx => (v = .bool true ∨ v = .bool false) ∧ w5 = wx)
        case first =>
          rcases hk3 with hk3 | hk3 | hk3
          · go_wp2_with fail
            go_meet
            exact ⟨.inl rfl, rfl⟩
          · obtain ⟨hk3, hk4⟩ := hk3
            go_wp2_with fail
            go_meet
            exact ⟨.inl rfl, rfl⟩
          · obtain ⟨hk3, hk4⟩ := hk3
            go_wp2_with fail
            go_meet
            exact ⟨.inr rfl, rfl⟩
        case rest =>
        obtain ⟨hq, rfl⟩ := hcut
        clear hk3 hk1 hk2 hkb
        go_upto_if 48 with fail
        go_cut [12] (fun v wx => CutS w1 pa pb v wx)
        case first =>
          --[[
          obtain ⟨la, B, hsa, hna, href, hmab, hB, hg⟩ := HI4.out
          have hp10 : p10 < w5.heap.size := (Array.getElem?_eq_some_iff.1 Blk.out).1
          have hp10a' : some p10 ≠ some pa := by
            intro e; cases e
            obtain ⟨_, _, _, h, _⟩ := hsa
            rw [Blk.out] at h; simp at h
          have hp10a : some p10 ≠ some pa := hp10a'
          have hp10b : p10 ≠ pb := by
            intro e; subst e
            obtain ⟨_, _, _, h, _⟩ := href
            rw [Blk.out] at h; simp at h
          have Hsa := Lib.hid hsa; have Hna := Lib.hid hna; have Href := Lib.hid href
          clear HI4 hsa hna href
          rcases hq with rfl | rfl
          · skip
            go_wp2_with fail
            go_region_held3 (fun w' => w'.cell? ⟨p10, 0, none⟩ = some (.int .i64 c) ∧ w'.cell? ⟨p10, 1, none⟩ = some (.int .i64 d))
              (first | (go_keep; done) | (refine ⟨hgb.cell ?_ hp10a, hgb.cell ?_ hp10a⟩ <;> (simp [*]; done)) | (refine ⟨hft.cell (a := ⟨p10, 0, none⟩) Blk6.out (by decide) hp10b ?_, hft.cell (a := ⟨p10, 1, none⟩) Blk6.out (by decide) hp10b ?_⟩ <;> (simp [*]; done)))
              (first
                | (go_at_call 35; refine (take_any (c := c) (d := d) (Hsa.out.gr (Gr.dr Gr.rfl')) Hna.out).mono ?_; rintro e w6 ⟨l2, rfl, hs2, hn2, hm2, hgb⟩; have Href6 := Lib.hid ((Href.out.gr (Gr.dr Gr.rfl')).gb (Hsa.out.gr (Gr.dr Gr.rfl')) hgb hpab); have Blk6 := Lib.hid ((hgb.block p10 hp10 hp10a').trans Blk.out); have hbw := Nat.le_trans hg.size hgb.size)
                | (go_at_call 36; refine (mark_any (i := false) Href6.out (by omega) (by omega) hB hbw).mono ?_; rintro e w7 hpost; unfold MarkPost at hpost; obtain ⟨B2, r, rfl, hr, href2, hB2, hBl, hbel, hft⟩ := hpost))
            have hin := take_markx Hna.out hn2 (by omega) hmab hm2 hr hB2
            have Hin := Lib.hid hin.1; have Hin2 := Lib.hid hin.2
            have Hfin := Lib.hid (show Inv w1 pa pb w7 from ⟨l2, B2, hs2.ft Href6.out hft hpab, hn2, href2, hin.2, hBl, (gr_gb (hg.tr (Gr.dr Gr.rfl')) hgb (fun k hk => by cases hk; exact hpa)).trans hbel⟩)
            clear hin hr href2 hB2 hbel hft hs2 hn2 hm2 hgb
            go_wp2
            go_meet
            unfold CutS
            exact ⟨by first | rw [Hin.out] | (simp only [go_sem]; rw [Hin.out]), Hfin.out⟩
          · skip
            go_wp2_with fail
            go_region_held3 (fun w' => w'.cell? ⟨p10, 0, none⟩ = some (.int .i64 c) ∧ w'.cell? ⟨p10, 1, none⟩ = some (.int .i64 d))
              (first | (go_keep; done) | (refine ⟨hgb.cell ?_ hp10a, hgb.cell ?_ hp10a⟩ <;> (simp [*]; done)) | (refine ⟨hft.cell (a := ⟨p10, 0, none⟩) Blk6.out (by decide) hp10b ?_, hft.cell (a := ⟨p10, 1, none⟩) Blk6.out (by decide) hp10b ?_⟩ <;> (simp [*]; done)))
              (first
                | (go_at_call 37; refine (add_any (c := c) (d := d) (Hsa.out.gr (Gr.dr Gr.rfl')) Hna.out (by omega)).mono ?_; rintro e w6 ⟨l2, rfl, hs2, hn2, hm2, hgb⟩; have Href6 := Lib.hid ((Href.out.gr (Gr.dr Gr.rfl')).gb (Hsa.out.gr (Gr.dr Gr.rfl')) hgb hpab); have Blk6 := Lib.hid ((hgb.block p10 hp10 hp10a').trans Blk.out); have hbw := Nat.le_trans hg.size hgb.size)
                | (go_at_call 36; refine (mark_any (i := true) Href6.out (by omega) (by omega) hB hbw).mono ?_; rintro e w7 hpost; unfold MarkPost at hpost; obtain ⟨B2, r, rfl, hr, href2, hB2, hBl, hbel, hft⟩ := hpost))
            have hin := add_mark Hna.out hn2 (by omega) hmab hm2 hr hB2
            have Hin := Lib.hid hin.1; have Hin2 := Lib.hid hin.2
            have Hfin := Lib.hid (show Inv w1 pa pb w7 from ⟨l2, B2, hs2.ft Href6.out hft hpab, hn2, href2, hin.2, hBl, (gr_gb (hg.tr (Gr.dr Gr.rfl')) hgb (fun k hk => by cases hk; exact hpa)).trans hbel⟩)
            clear hin hr href2 hB2 hbel hft hs2 hn2 hm2 hgb
            go_wp2
            go_meet
            unfold CutS
            exact ⟨by first | rw [Hin.out] | (simp only [go_sem]; rw [Hin.out]), Hfin.out⟩
          --]]
        case rest =>
          unfold CutS at hcut
          obtain ⟨rfl, hinv⟩ := hcut
          obtain ⟨la, B, hsa, hna, href, hmab, hB, hg⟩ := hinv
          have hsp := spans_eq hna hB hmab
          have hln := norm_len hna
          have hok := norm_okS hna
          have Hsa := Lib.hid hsa; have Hna := Lib.hid hna; have Hm := Lib.hid hmab
          have hrs := fun W (h : isRef W w1.heap.size pb B) => rspans_calls h hB
          rw [hsp] at hrs
          have Hrs := Lib.hid hrs
          have Href := Lib.hid href
          clear hsa hna hmab href hrs hsp HI4 Blk x0 x1 hq
          go_wp2_with fail
          refine (Hrs.out _ Href.out).mono ?_
          rintro e w6 ⟨v6, rfl, hown6, hb⟩
          replace Hsa := Lib.hid (Hsa.out.gr hb); replace Href := Lib.hid (Href.out.gr hb); replace hg := hg.tr hb
          clear hb
          obtain ⟨a6, c6, rfl⟩ := own_slice hown6
          have Hown6 := Lib.hid hown6
          obtain ⟨_, a6', cap6, he6, hcap6, hrd6⟩ := rdRow_of_own hown6
          cases he6
          clear hown6
          have hb6 := fun k => szS_bd (la.take k) (fun x hx => hok.2 x (List.mem_of_mem_take hx))
          have Hb6 := Lib.hid hb6; clear hb6
          go_wp2_with fail
          go_loopw [14, 15] (fun s i wr => ∃ k : Nat, k ≤ la.length ∧ i = .int .i64 k ∧ s = .int .i64 (szS (la.take k)) ∧ Gr w6 wr) (fun _ i _ => la.length - (intOf i).toNat)
          case atStart => exact ⟨0, Nat.zero_le _, rfl, by simp [szS], Gr.rfl'⟩
          case round =>
            obtain ⟨j, hj, rfl, hs14, hgr⟩ := hrel
            obtain ⟨wz, rfl⟩ : ∃ wz : World, wz = wr := ⟨_, rfl⟩
            by_cases hjl : j < la.length
            · subst hs14
              obtain ⟨b6, o6, rfl, hc6⟩ := hrd6 (by omega)
              have c0 := keepc hgr (hc6 _ _ (encS_get la j hjl).1)
              have c1 := keepc hgr (hc6 _ _ (encS_get la j hjl).2)
              rw [← Nat.add_assoc] at c1
              have hx := hok.2 la[j] (List.getElem_mem hjl)
              have hs0 := Hb6.out j
              have ht := List.length_take_le j la
              have hst := Lib.hid (szS_take la j hjl)
              generalize la[j] = xx at *
              obtain ⟨p, q⟩ := xx
              generalize szS (la.take j) = s0 at *
              generalize (la.take j).length = n0 at *
              simp only at hx
              have g1 : (0 : Int) ≤ (j : Int) := by omega
              have g2 : (j : Int) < (la.length : Int) := by omega
              have q1 : IntKind.i64.wrap (s0 + q) = s0 + q := IntWalk.i64_in _ (by omega)
              have q2 : IntKind.i64.wrap (s0 + q - p) = s0 + q - p := IntWalk.i64_in _ (by omega)
              clear hc6 hrd6
              go_wp2_with fail
              go_quiet (fail)
              go_wp2_with fail
              clear q1 q2
              go_roundw
              case rel => exact ⟨j + 1, by omega, by go_num, by rw [hst.out]; congr 1; omega, by (repeat (first | exact Gr.rfl' | refine Gr.al ?_ _ | refine Gr.dr ?_ | refine Gr.drN ?_ | refine Gr.sc ?_ (by simp <;> omega) _ | refine Gr.tr ?_ (by assumption)))⟩
              case measure => simp [intOf]; omega
            · obtain rfl : j = la.length := by omega
              rw [List.take_length] at hs14
              subst hs14
              replace Hsa := Lib.hid (Hsa.out.gr hgr); replace Href := Lib.hid (Href.out.gr hgr); replace hg := hg.tr hgr
              replace Hown6 := Lib.hid (own_gr Hown6.out hgr)
              clear hrd6 hgr Hb6
              go_wp2_with fail
              refine (spans_set Hsa.out (by omega)).mono ?_
              rintro e w7 ⟨va, rfl, hown7, hb⟩
              replace Hsa := Lib.hid (Hsa.out.gr hb); replace Href := Lib.hid (Href.out.gr hb); replace hg := hg.tr hb
              replace Hown6 := Lib.hid (own_gr Hown6.out hb)
              clear hb
              obtain ⟨a7, c7, rfl⟩ := own_slice hown7
              have Hown7 := Lib.hid hown7; clear hown7
              go_wp2_with fail
              refine (same_calls _ _ la _ (rdRow_of_own Hown7.out) (rdRow_of_own Hown6.out) (by omega)).mono ?_
              rintro e w8 ⟨rfl, hb⟩
              replace Hsa := Lib.hid (Hsa.out.gr hb); replace Href := Lib.hid (Href.out.gr hb); replace hg := hg.tr hb
              clear hb Hown6 Hown7
              have hany : la.any (hasB t) = decide (0 ≤ t ∧ gB B t.toNat = true) := by
                rw [Bool.eq_iff_iff, memS_any, decide_eq_true_eq]; exact Hm.out t
              have Hany := Lib.hid hany
              clear hany
              go_upto_region 23 with fail
              go_cut [17] (fun v wx => v = .bool (la.any (hasB t)) ∧ w8 = wx)
              case first =>
                obtain ⟨ab, cb, hcb, hownb, hfb, hpb⟩ := Href.out.cell
                by_cases ht0 : 0 ≤ t
                · by_cases htl : t < (B.length : Int)
                  · obtain ⟨tn, rfl⟩ := Int.eq_ofNat_of_zero_le ht0
                    have htn : tn < B.length := by omega
                    obtain ⟨g, c0, hab, _, _⟩ := own_at hownb (by omega)
                    cases hab
                    have hbt : w8.cell? ⟨g, tn, none⟩ = some (.bool (gB B tn)) := by
                      rw [hownb.cellAt tn (by omega), gB_get B tn htn]; simp [encBl, htn]
                    have Hfin := Lib.hid (show gB B tn = la.any (hasB (tn : Int)) by rw [Hany.out, Bool.eq_iff_iff, decide_eq_true_eq]; simp)
                    clear hownb Hany
                    go_wp2_with fail
                    go_meet
                    exact ⟨by rw [Hfin.out], rfl⟩
                  · have Hfin := Lib.hid (show false = la.any (hasB t) by
                      rw [Hany.out, Bool.eq_iff_iff, decide_eq_true_eq]
                      constructor
                      · intro h; cases h
                      · rintro ⟨h1, h2⟩; have := gB_lt h2; omega)
                    clear hownb Hany
                    go_wp2_with fail
                    go_meet
                    exact ⟨by rw [Hfin.out], rfl⟩
                · have Hfin := Lib.hid (show false = la.any (hasB t) by
                    rw [Hany.out, Bool.eq_iff_iff, decide_eq_true_eq]
                    constructor
                    · intro h; cases h
                    · rintro ⟨h1, h2⟩; omega)
                  clear hownb Hany
                  go_wp2_with fail
                  go_meet
                  exact ⟨by rw [Hfin.out], rfl⟩
              case rest =>
                obtain ⟨rfl, rfl⟩ := hcut
                clear Hany
                have hcs := fun W (h : isSet W pa la) => has_set (t := t) h (by omega)
                generalize la.any (hasB t) = q at *
                have hqq : (q != q) = false := by cases q <;> rfl
                have hss := fun W (h : isSet W pa la) => size_set h hok
                have hzz : (szS la != szS la) = false := by simp
                generalize szS la = z at *
                have Hcs := Lib.hid hcs; have Hss := Lib.hid hss
                clear hcs hss
                go_wp2_with fail
                refine (Hss.out _ Hsa.out).mono ?_
                rintro e w9 ⟨rfl, hb⟩
                replace Hsa := Lib.hid (Hsa.out.gr hb); replace Href := Lib.hid (Href.out.gr hb); replace hg := hg.tr hb
                clear hb
                go_wp2_with fail
                refine (Hcs.out _ Hsa.out).mono ?_
                rintro e w10 ⟨rfl, hb⟩
                replace Hsa := Lib.hid (Hsa.out.gr hb); replace Href := Lib.hid (Href.out.gr hb); replace hg := hg.tr hb
                clear hb
                go_wp2_with fail
                go_roundw
                case rel => exact ⟨k + 1, by omega, by omega, by go_num, la, B, Hsa.out, Hna.out, Href.out, Hm.out, hB, hg⟩
                case measure => simp [intOf]; omega
      · obtain rfl : k = 40 := by omega
        have hki : (40 : Int) < (l.length : Int) := by omega
        have hg : Gr w1 wo := by obtain ⟨_, _, _, _, _, _, _, h⟩ := HI.out; exact h
        clear HI hrd
        go_wp2_with fail
        go_ret
        exact ⟨rfl, by (repeat (first | exact Gr.rfl' | refine Gr.al ?_ _ | refine Gr.dr ?_ | refine Gr.drN ?_ | refine Gr.sc ?_ (by simp <;> omega) _ | refine Gr.tr ?_ (by assumption)))⟩
    · obtain rfl : k = l.length := by omega
      have hg : Gr w1 wo := by obtain ⟨_, _, _, _, _, _, _, h⟩ := HI.out; exact h
      clear HI hrd
      go_wp2_with fail
      go_ret
      exact ⟨rfl, by (repeat (first | exact Gr.rfl' | refine Gr.al ?_ _ | refine Gr.dr ?_ | refine Gr.drN ?_ | refine Gr.sc ?_ (by simp <;> omega) _ | refine Gr.tr ?_ (by assumption)))⟩
end Go.Proofs.Ytafdddakkenlaaa

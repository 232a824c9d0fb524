/- CausalAnew: the walk. -/
import Derived.Test.YtnneebdcaefgoaaCbN
namespace Go.Proofs.Ytnneebdcaefgoaa
open Go.RowKit Go.Maps

structure One (w wr : World) (p : Nat) (mb : Option Nat) (B : Buf) (v : Value) (L : List (Rec × Value)) : Prop where
  gr : Gr w wr
  b : BufAt wr p mb B
  row : wr.ownsRow w.heap.size 33 9 v L.length (encR L)
  rx : ∀ k, v.ownBlock = some k → ¬ BX p mb k
  deps : ∀ x ∈ L, rdX (BX p mb) wr x.2 x.1.d
  n : ∀ k, BX p mb k → w.heap.size ≤ k
theorem One.grow {w wr w' : World} {p : Nat} {mb : Option Nat} {B : Buf} {v : Value} {L : List (Rec × Value)} (h : One w wr p mb B v L) (hg : Gr wr w') : One w w' p mb B v L :=
  ⟨h.gr.tr hg, h.b.gr' hg, own_gr h.row hg, h.rx, fun x hx => (h.deps x hx).gr hg, h.n⟩
theorem One.turn {w wr w' : World} {p : Nat} {mb mb' : Option Nat} {B B' : Buf} {v : Value} {L : List (Rec × Value)} (h : One w wr p mb B v L) (h1 : BufAt w' p mb' B') (hb : Bt (BX p mb) wr w') (hm : SameMap wr mb mb') : One w w' p mb' B' v L := by
  have hsub : ∀ k, BX p mb' k → BX p mb k ∨ wr.heap.size ≤ k := fun k hk => by
    rcases hm with rfl | ⟨_, b, rfl, hbz⟩
    · exact .inl hk
    · rcases hk with hk | hk
      · exact .inl (.inl hk)
      · injection hk with hk; exact .inr (by omega)
  refine ⟨hb.gr h.gr h.n, h1, own_bt h.row hb h.rx, fun k e z => ?_, fun x hx => ?_, newer h.n hm h.gr.size⟩
  · rcases hsub k z with z | z
    · exact h.rx k e z
    · have := (h.row.lt k e).2; omega
  · exact (((h.deps x hx).wid (Y := fun k => BX p mb k ∨ wr.heap.size ≤ k) (fun k hk => hk)).bt hb (fun k hk => .inl hk)).mono hsub
theorem form_row {w : World} {N : Nat} {v : Value} {L : List (Rec × Value)} (h : w.ownsRow N 33 9 v L.length (encR L)) : ∃ a c, v = .slice a L.length c := by
  rcases h.2 with ⟨rfl, h0⟩ | ⟨g, cap, cur, rfl, _⟩
  · exact ⟨none, 0, by rw [h0]⟩
  · exact ⟨_, cap, rfl⟩
def recsOf (L : List (Rec × Value)) : List Rec := L.map (·.1)
theorem recsOf_len (L : List (Rec × Value)) : (recsOf L).length = L.length := List.length_map ..
theorem recsOf_get (L : List (Rec × Value)) (i : Nat) (h : i < (recsOf L).length) : (recsOf L)[i] = (L[i]'(by rw [recsOf_len] at h; exact h)).1 := List.getElem_map ..
set_option maxRecDepth 100000 in
set_option maxHeartbeats 8000000 in
theorem anew_law (v1 : Value) (ops : List OpR) (at0 : Int) (w : World) (hat : I64 at0) (hv1 : rdRow w 10 v1 ops.length (ops.flatMap opC)) (hops : ∀ o ∈ ops, OpOk w o) (hlm : ops.length ≤ maxLen) :
    Calls Try.prog 3 #[v1, .int .i64 at0] w fun e w' => e = .returned (.bool true) ∧ Gr w w' := by
  have hnil : ∀ W, rdRow W 1 (.slice none 0 0) ([] : List Int).length (encI []) := fun W => ⟨rfl, none, 0, rfl, Nat.le_refl _, fun h => by simp at h⟩
  have Hnew := Lib.hid (fun W => new_x 400 (.slice none 0 0) [] W (hnil W) (by decide))
  have Hlog := Lib.hid (fun W (hg : Gr w W) => logged_calls v1 ops W ⟨(hv1.gr hg).1, (hv1.gr hg).2⟩ (fun o ho => ⟨(hops o ho).1, (hops o ho).2.1, (hops o ho).2.2.1.gr hg, (hops o ho).2.2.2⟩) hlm)
  unfold I64 at hat
  clear hnil hv1 hops hlm
  go_enter Try.func3, Try.ntmps3
  go_wp2_with fail
  refine (awake_calls _).mono ?_
  rintro e w1 ⟨rfl, hg1⟩
  have G1 := Lib.hid hg1
  clear hg1
  go_wp2_with fail
  refine (Hlog.out _ G1.out).mono ?_
  rintro e w2 ⟨v, L, rfl, hrow, hdeps, hlp, hn40, hg2⟩
  have G2 := Lib.hid (G1.out.tr hg2)
  have HP := Lib.hid (show LogP (recsOf L) from hlp)
  have hrow' := own_mono hrow G1.out.size
  obtain ⟨av, cv, rfl⟩ := form_row hrow'
  have HRow := Lib.hid hrow'; have HDeps := Lib.hid hdeps
  clear hrow hrow' hdeps hlp hg2 Hlog
  go_wp2_with fail
  refine (Hnew.out _).mono ?_
  rintro e w3 ⟨p1, rfl, hp1, hB1, hg3⟩
  have HO := Lib.hid (show One w w3 p1 none (bufNew 400 []) (.slice av L.length cv) L from ⟨G2.out.tr hg3, BufX.at hB1 (fun k hk => by rcases hk with hk | hk; exact .inr hk; cases hk), own_gr HRow.out hg3, fun k e z => (by rcases z with z | z; (have := (HRow.out.lt k e).2; omega); cases z), fun x hx => ((rdX_below (HDeps.out x hx)).mono (fun k hk => by rcases hk with hk | hk; (rw [hk]; exact hp1); cases hk)).gr hg3, fun k hk => (by rcases hk with rfl | hk; exact Nat.le_trans G2.out.size hp1; cases hk)⟩)
  clear hp1 hB1 hg3 HRow HDeps G2 G1
  go_upto_if 30 with (fail)
  go_cut [8] (fun vx wx => ∃ m : Int, 0 ≤ m ∧ m ≤ 9223372036854775807 ∧ vx = .int .i64 m ∧ w3 = wx)
  case first =>
    by_cases hneg : at0 < 0
    · have hw1 : IntKind.i64.wrap (at0 + 1) = at0 + 1 := by simp [IntKind.wrap, IntKind.bits, IntKind.signed]; omega
      have hw2 : IntKind.i64.wrap (-(at0 + 1)) = -(at0 + 1) := by simp [IntKind.wrap, IntKind.bits, IntKind.signed]; omega
      go_wp2_with fail
      go_meet
      exact ⟨-(at0 + 1), by omega, by omega, rfl, rfl⟩
    · go_wp2_with fail
      go_meet
      exact ⟨at0, by omega, by omega, rfl, rfl⟩
  case rest =>
    obtain ⟨m, hm0, hm1, rfl, rfl⟩ := hcut
    have hmod0 := Int.emod_nonneg m (show ((L.length : Int) + 1) ≠ 0 by omega)
    have hmod1 := Int.emod_lt_of_pos m (show (0 : Int) < (L.length : Int) + 1 by omega)
    obtain ⟨kk, hkk⟩ := Int.eq_ofNat_of_zero_le hmod0
    have htm : m.tmod ((L.length : Int) + 1) = (kk : Int) := by rw [Int.tmod_eq_emod_of_nonneg hm0]; exact hkk
    have hkl : kk ≤ L.length := by omega
    have hne0 : ¬ (L.length : Int) + 1 = 0 := by omega
    clear hmod0 hmod1 hat
    go_wp2_with fail
    go_loopw [9] (fun iv wr => ∃ (i : Nat) (mb : Option Nat) (B : Buf), i ≤ kk ∧ iv = .int .i64 i ∧ Hid (One w wr p1 mb B (.slice av L.length cv) L) ∧ Hid (BI (recsOf L) (offK (recsOf L) i) B ∧ B.out = knowV ((recsOf L).take i))) (fun iv _ => kk - (intOf iv).toNat)
    case atStart => exact ⟨0, none, _, Nat.zero_le _, rfl, HO, Lib.hid ⟨BI.new _ [] (by decide), by rw [bufNew_out (by decide), List.take_zero]; rfl⟩⟩
    case round =>
      obtain ⟨i, mb, B, hi, rfl, HOn, HBI⟩ := hrel
      by_cases hlt : i < kk
      · have hil : i < L.length := by omega
        have h1 : (0 : Int) ≤ (i : Int) := by omega
        have h2 : (i : Int) < (L.length : Int) := by omega
        have h3 : (i : Int) < (kk : Int) := by omega
        obtain ⟨bg, og, cg, eg, _, hrg⟩ := rd_range recL 9 (fun _ => rfl) (rdRow_of_own HOn.out.row) (by omega)
        injection eg with eg1 eg2 eg3
        subst eg1
        have hdx := HOn.out.deps _ (List.getElem_mem hil)
        have hone := anew_one HP.out (by rw [recsOf_len]; omega) (show i < (recsOf L).length by rw [recsOf_len]; exact hil) HBI.out.1 HBI.out.2
        have hof := HBI.out.1.offer HP.out (by rw [recsOf_len]; omega) (show i < (recsOf L).length by rw [recsOf_len]; exact hil)
        have hrk := (HP.out i (by rw [recsOf_len]; exact hil)).1
        rw [recsOf_get] at hone hof hrk
        have Hrg := Lib.hid (hrg i hil)
        obtain ⟨x, hx⟩ : ∃ x, L[i] = x := ⟨_, rfl⟩
        rw [hx] at Hrg hdx hone hof hrk
        obtain ⟨k9, hk9, hnx, hBI', ho'⟩ := hone
        have h8 := recOk_len hrk
        have Hof := Lib.hid (offer_calls (fun _ => False) wr p1 mb B (BufE.of HOn.out.b) (fun _ z => z.elim) (by have := HBI.out.1.out; omega) (by have := HBI.out.1.le; rw [recsOf_len] at this; omega) x.1 x.2 hdx (by omega))
        have HBI2 := Lib.hid hof; have Hnx := Lib.hid hnx; have HBI3 := Lib.hid (And.intro hBI' ho')
        clear hrg eg3 hx hdx hof hrk hnx hBI' ho' h8
        go_wp2_with (first | (refine wpList_load_mid rfl 33 (.tmp 47) rfl bg (og + i * 9) rfl (recL x) _ Hrg.out Try.underlying33 rfl info_rec ?_))
        refine Hof.out.mono ?_
        intro e w5 hO
        obtain ⟨rfl, mb5, g1, g2, g3, _⟩ := hO
        have HO5 := Lib.hid (HOn.out.turn g1.at g2 g3)
        clear g1 g2 g3
        go_wp2_with fail
        refine (next_calls (fun _ => False) w5 p1 mb5 (offB B x.1) (BufE.of HO5.out.b) (fun _ z => z.elim) (by have := HBI2.out.out; omega) (HBI2.out.k HP.out) HBI2.out.own).mono ?_
        intro e w6 hN
        have hN' := next_is hN
        rw [Hnx.out] at hN'
        obtain ⟨d6, rfl, hd6, hB6, hT6⟩ := hN'
        have hd61 := rdX_one hd6
        have HO6 := Lib.hid (HO5.out.turn hB6.at hT6 (.inl rfl)); have Hd61 := Lib.hid hd61
        clear hN hd6 hd61 hB6 hT6
        go_wp2_with (refine wpList_store_blk rfl 33 (.tmp 10) (.tmp 53) rfl w6.heap.size (recC x.1 d6) rfl rfl _ _ (heap_alloc_new w6 _) rfl info_rec (one_rec _ _ Hd61.out) (fun w7 b7 g7 s7 => ?_))
        have hg7 : Gr w6 w7 := gr_new (Gr.al Gr.rfl' (.cells #[.int .i64 0, .string ⟨#[]⟩, .int .i64 0, .int .i64 0, .int .i64 0, .int .i64 0, .int .i64 0, .int .i64 0, .slice none 0 0] 33)) g7 (Nat.le_refl _)
        go_roundw
        case rel => exact ⟨i + 1, mb5, _, by omega, by go_num, Lib.hid (HO6.out.grow hg7), HBI3⟩
        case measure => simp [intOf]; omega
      · obtain rfl : i = kk := by omega
        have hno : ¬ (i : Int) < (i : Int) := by omega
        go_wp2_with fail
        have hBo := HBI.out.1.out
        have hLs : (recsOf L).length = L.length := recsOf_len L
        refine (out_calls wr p1 mb B HOn.out.b (by omega)).mono ?_
        rintro e w4 ⟨v4, rfl, ho4, hb4⟩
        have Hnx4 := Lib.hid (new_x 400 v4 B.out w4 (rdRow_of_own ho4) (by omega))
        have HB4 := Lib.hid hb4
        clear ho4 hb4
        go_wp2_with fail
        refine Hnx4.out.mono ?_
        rintro e w5 ⟨p2, rfl, hp2, hB2, hg5⟩
        have hlt1 : ∀ k, BX p1 mb k → k < w4.heap.size := fun k hk => by
          rcases hk with rfl | hk
          · exact Nat.lt_of_lt_of_le HOn.out.b.1 HB4.out.size
          · exact Nat.lt_of_lt_of_le (HOn.out.b.2.1 _ hk).1 HB4.out.size
        have hp2b : ∀ k, BX p2 none k → w4.heap.size ≤ k := fun k hk => by rcases hk with rfl | hk; exact hp2; cases hk
        have hTwo : Two w w5 p1 mb B p2 none (bufNew 400 B.out) (.slice av L.length cv) L := by
          refine ⟨(HOn.out.gr.tr HB4.out).tr hg5, BufX.gr' (BufX.wid (HOn.out.b.gr' HB4.out) (fun k hk => hk.imp id (fun z => hp2b k z))) hg5, BufX.wid hB2 (fun k hk => .inl ?_), fun k h1 h2 => by have := hlt1 k h1; have := hp2b k h2; omega, own_gr (own_gr HOn.out.row HB4.out) hg5, fun k e => ⟨HOn.out.rx k e, fun z => by have h5 := (HOn.out.row.lt k e).2; have h6 := HB4.out.size; have h7 := hp2b k z; omega⟩, fun x hx => (((HOn.out.deps x hx).gr HB4.out).wid (fun k hk => hk.imp id (fun z => hp2b k z))).gr hg5, HOn.out.n, fun k hk => Nat.le_trans (HOn.out.gr.tr HB4.out).size (hp2b k hk)⟩
          rcases hk with hk | hk
          · rcases hk with hk | hk
            · exact .inr hk
            · cases hk
          · exact .inl (hlt1 k hk)
        have HT := Lib.hid hTwo
        have hpl := HBI.out.1.plain
        have HB2 := Lib.hid (show BI (recsOf L) (offK (recsOf L) 0) B ∧ BI (recsOf L) (offK (recsOf L) 0) (bufNew 400 B.out) ∧ B.out = knowV ((recsOf L).take i) ∧ (bufNew 400 B.out).out = knowV ((recsOf L).take i) from ⟨HBI.out.1.congr (fun j hj hlt => by
            rw [offK_zero]
            cases hx : offK (recsOf L) i (recsOf L)[j].st (recsOf L)[j].q with
            | false => rfl
            | true =>
              have h1 := (offK_iff HP.out hj).1 hx
              have h2 := know_mono _ HP.out i (by omega) j hj h1
              rw [HBI.out.2] at hlt; omega), BI.new _ _ hpl, HBI.out.2, by rw [bufNew_out hpl]; exact HBI.out.2⟩)
        clear hTwo hpl hlt1 hp2b hp2 hB2 hg5 hBo
        go_wp2_with fail
        go_loopw [13] (fun iv wx => ∃ (j : Nat) (mb1 : Option Nat) (B1 : Buf) (mb2 : Option Nat) (B2 : Buf), j ≤ L.length ∧ iv = .int .i64 j ∧ Hid (Two w wx p1 mb1 B1 p2 mb2 B2 (.slice av L.length cv) L) ∧ Hid (BI (recsOf L) (offK (recsOf L) j) B1 ∧ BI (recsOf L) (offK (recsOf L) j) B2 ∧ B1.out = knowV ((recsOf L).take i) ∧ B2.out = knowV ((recsOf L).take i))) (fun iv _ => L.length - (intOf iv).toNat)
        case atStart => exact ⟨0, mb, B, none, _, Nat.zero_le _, rfl, HT, HB2⟩
        case round =>
          obtain ⟨j, mb1, B1, mb2, B2, hj, rfl, HT, HB⟩ := hrel
          by_cases hjl : j < L.length
          · have h1 : (0 : Int) ≤ (j : Int) := by omega
            have h2 : (j : Int) < (L.length : Int) := by omega
            obtain ⟨bg, og, cg, eg, _, hrg⟩ := rd_range recL 9 (fun _ => rfl) (rdRow_of_own HT.out.row) (by omega)
            injection eg with eg1 eg2 eg3
            subst eg1
            have hjs : j < (recsOf L).length := by omega
            have hdx : rdX _ _ _ _ := HT.out.deps _ (List.getElem_mem hjl)
            have hof1 := HB.out.1.offer HP.out (by omega) hjs
            have hof2 := HB.out.2.1.offer HP.out (by omega) hjs
            have hn1 := HB.out.1.offN HP.out (by omega) hjs
            have hn2 := HB.out.2.1.offN HP.out (by omega) hjs
            have hrk := (HP.out j hjs).1
            have hoj : offK (recsOf L) j (recsOf L)[j].st (recsOf L)[j].q = false := by
              cases hx : offK (recsOf L) j (recsOf L)[j].st (recsOf L)[j].q with
              | false => rfl
              | true => have := (offK_iff HP.out hjs).1 hx; omega
            have hv : offN B1 (recsOf L)[j] = (if j < i then 1 else 0) ∧ offN B2 (recsOf L)[j] = (if j < i then 1 else 0) := by
              rw [hn1, hn2, HB.out.2.2.1, HB.out.2.2.2, hoj]
              by_cases e : j < i
              · have := know_mono _ HP.out i (by omega) j hjs e
                rw [if_pos (.inl this), if_pos e]; exact ⟨rfl, rfl⟩
              · have := know_lt _ HP.out j i hjs (by omega)
                have hne : ¬ ((recsOf L)[j].q ≤ atV (knowV ((recsOf L).take i)) (recsOf L)[j].st ∨ false = true) := fun z => by rcases z with z | z; omega; cases z
                rw [if_neg hne, if_neg e]; exact ⟨rfl, rfl⟩
            rw [offK_succ _ hjs] at hof1 hof2
            have ho1 := offB_out B1 (recsOf L)[j]
            have ho2 := offB_out B2 (recsOf L)[j]
            rw [recsOf_get] at hof1 hof2 hv hrk ho1 ho2
            have Hrg := Lib.hid (hrg j hjl)
            obtain ⟨x, hx⟩ : ∃ x, L[j] = x := ⟨_, rfl⟩
            rw [hx] at Hrg hdx hof1 hof2 hv hrk ho1 ho2
            have h8 := recOk_len hrk
            have Hof := Lib.hid (offer_calls (BX p2 mb2) wr p1 mb1 B1 HT.out.b1 HT.out.swap.lt1 (by have := HB.out.1.out; omega) (by have := HB.out.1.le; omega) x.1 x.2 (hdx.mono (fun _ z => .inl z)) (by omega))
            obtain ⟨n0, hn0⟩ : ∃ n0 : Int, (if j < i then (1 : Int) else 0) = n0 := ⟨_, rfl⟩
            rw [hn0] at hv
            have Hn0 := Lib.hid hn0
            clear hn0
            have HF := Lib.hid (And.intro hof1 hof2); have HV := Lib.hid hv; have HO12 := Lib.hid (And.intro ho1 ho2)
            have Hdx := Lib.hid hdx; have H8 := Lib.hid h8
            have Hx := Lib.hid hx
            have Hxm := Lib.hid (show x ∈ L by rw [← hx]; exact List.getElem_mem hjl)
            clear hrg eg3 hx hdx hof1 hof2 hn1 hn2 hrk hoj hv ho1 ho2 h8
            go_wp2_with (first | (refine wpList_load_mid rfl 33 (.tmp 71) rfl bg (og + j * 9) rfl (recL x) _ Hrg.out Try.underlying33 rfl info_rec ?_))
            refine Hof.out.mono ?_
            intro e w7 hO
            obtain ⟨rfl, mb1', hT7⟩ := HT.out.offer hO
            rw [HV.out.1]
            have HT7 := Lib.hid hT7
            obtain ⟨bg2, og2, cg2, eg2, _, hrg2⟩ := rd_range recL 9 (fun _ => rfl) (rdRow_of_own hT7.row) (by omega)
            injection eg2 with eg21 eg22 eg23
            injection eg21 with eg21
            injection eg21 with e1 e2
            subst e1 e2
            have Hrg2 := Lib.hid (show w7.rangeAt bg (og + j * 9) (recL x) by have := hrg2 j hjl; rw [Hx.out] at this; exact this)
            have Hof2 := Lib.hid (offer_calls (BX p1 mb1') w7 p2 mb2 B2 hT7.b2 hT7.lt1 (by have := HB.out.2.1.out; omega) (by have := HB.out.2.1.le; omega) x.1 x.2 ((hT7.deps x Hxm.out).mono (fun _ z => .inr z)) (by have := H8.out; omega))
            clear hO hT7 hrg2 eg22 eg23
            go_wp2_with (first | (refine wpList_load_mid rfl 33 (.tmp 77) rfl bg (og + j * 9) rfl (recL x) _ Hrg2.out Try.underlying33 rfl info_rec ?_))
            refine Hof2.out.mono ?_
            intro e w8 hO
            obtain ⟨rfl, mb2', hT8⟩ := HT7.out.swap.offer hO
            rw [HV.out.2]
            have HT8 := Lib.hid hT8.swap
            have HB8 := Lib.hid (show BI (recsOf L) (offK (recsOf L) (j + 1)) (offB B1 x.1) ∧ BI (recsOf L) (offK (recsOf L) (j + 1)) (offB B2 x.1) ∧ (offB B1 x.1).out = knowV ((recsOf L).take i) ∧ (offB B2 x.1).out = knowV ((recsOf L).take i) from ⟨HF.out.1, HF.out.2, by rw [HO12.out.1]; exact HB.out.2.2.1, by rw [HO12.out.2]; exact HB.out.2.2.2⟩)
            clear hO hT8
            by_cases hji : j < i
            · have hji' : (j : Int) < (i : Int) := by omega
              have e0 := Hn0.out
              rw [if_pos hji] at e0
              subst e0
              clear hji Hn0 HV
              go_wp2_with fail
              go_roundw
              case rel => exact ⟨j + 1, mb1', _, mb2', _, by omega, by go_num, HT8, HB8⟩
              case measure => simp [intOf]; omega
            · have hji' : ¬ (j : Int) < (i : Int) := by omega
              have e0 := Hn0.out
              rw [if_neg hji] at e0
              subst e0
              clear hji Hn0 HV
              go_wp2_with fail
              go_roundw
              case rel => exact ⟨j + 1, mb1', _, mb2', _, by omega, by go_num, HT8, HB8⟩
              case measure => simp [intOf]; omega
          · obtain rfl : j = L.length := by omega
            have hno2 : ¬ (L.length : Int) < (L.length : Int) := by omega
            go_wp2_with fail
            have HB3 := Lib.hid (show BI (recsOf L) (offK (recsOf L) L.length) B1 ∧ BI (recsOf L) (offK (recsOf L) L.length) B2 ∧ B1.out = B2.out ∧ B1.n = L.length - i from ⟨HB.out.1, HB.out.2.1, by rw [HB.out.2.2.1, HB.out.2.2.2], by
              have h1 : BI (recsOf L) (offK (recsOf L) (recsOf L).length) B1 := by rw [hLs]; exact HB.out.1
              have h2 := h1.left HP.out (k := i) (by omega) HB.out.2.2.1
              rw [hLs] at h2; exact h2⟩)
            have HT3 := Lib.hid HT.out
            clear HB HT
            go_loopw [16] (fun iv wx => ∃ (j : Nat) (mb1 : Option Nat) (B1 : Buf) (mb2 : Option Nat) (B2 : Buf), i ≤ j ∧ j ≤ L.length + 1 ∧ iv = .int .i64 j ∧ Hid (Two w wx p1 mb1 B1 p2 mb2 B2 (.slice av L.length cv) L) ∧ Hid (BI (recsOf L) (offK (recsOf L) L.length) B1 ∧ BI (recsOf L) (offK (recsOf L) L.length) B2 ∧ B1.out = B2.out ∧ B1.n = L.length - j)) (fun iv _ => L.length + 1 - (intOf iv).toNat)
            case atStart => exact ⟨i, mb1, B1, mb2, B2, Nat.le_refl _, by omega, rfl, HT3, HB3⟩
            case round =>
              clear HT3 HB3
              obtain ⟨j, mb1, B1, mb2, B2, hij, hj, rfl, HT, HB⟩ := hrel
              have hb1 : BI (recsOf L) (offK (recsOf L) (recsOf L).length) B1 := by rw [hLs]; exact HB.out.1
              have hsame := HB.out.2.1.same HB.out.1 HB.out.2.2.1.symm
              by_cases hjl : j < L.length
              · have h1 : (j : Int) < (L.length : Int) := by omega
                have h2 : (j : Int) ≤ (L.length : Int) := by omega
                obtain ⟨k, r, hk, hnx, hbi, hnn⟩ := hb1.some HP.out (by have := HB.out.2.2.2; omega)
                rw [hLs] at hbi
                rw [hnx] at hsame
                obtain ⟨_, hs2⟩ := nextAll_some hsame
                obtain ⟨g1, g2, ⟨jr, hjr, er, _⟩, _⟩ := HB.out.2.1.take HP.out hk hs2
                have Hr8 := Lib.hid (show r.d.length ≤ 8 by rw [← er]; exact recOk_len (HP.out jr hjr).1)
                have HBn := Lib.hid (show BI (recsOf L) (offK (recsOf L) L.length) (takeB B1 k r) ∧ BI (recsOf L) (offK (recsOf L) L.length) (takeB B2 k r) ∧ (takeB B1 k r).out = (takeB B2 k r).out ∧ (takeB B1 k r).n = L.length - (j + 1) from ⟨hbi, g1, by show withV B1.out k r.q = withV B2.out k r.q; rw [HB.out.2.2.1], by have := HB.out.2.2.2; omega⟩)
                have Hnx1 := Lib.hid hnx; have Hnx2 := Lib.hid hsame
                clear hb1 hbi hnn hs2 g1 g2 er hnx hsame
                go_wp2_with fail
                refine (next_calls (BX p2 mb2) wr p1 mb1 B1 HT.out.b1 HT.out.swap.lt1 (by have := HB.out.1.out; omega) (HB.out.1.k HP.out) HB.out.1.own).mono ?_
                intro e w7 hN
                have hN' := HT.out.next hN
                rw [Hnx1.out] at hN'
                obtain ⟨a7, c7, rfl, hd7, hT7, hb7⟩ := hN'
                have Hd7 := Lib.hid hd7
                have HT7 := Lib.hid hT7
                clear hN hT7 hb7 hd7
                go_wp2_with (refine wpList_store_blk rfl 33 (.tmp 17) (.tmp 101) rfl w7.heap.size (recC r (.slice a7 r.d.length c7)) rfl rfl _ _ (heap_alloc_new w7 _) rfl info_rec (one_rec _ _ rfl) (fun w8 b8 g8 s8 => ?_))
                have hg8 : Gr w7 w8 := gr_new (Gr.al Gr.rfl' (.cells #[.int .i64 0, .string ⟨#[]⟩, .int .i64 0, .int .i64 0, .int .i64 0, .int .i64 0, .int .i64 0, .int .i64 0, .slice none 0 0] 33)) g8 (Nat.le_refl _)
                obtain ⟨A17, eA17⟩ : ∃ A, w7.heap.size = A := ⟨_, rfl⟩
                have hX17 : ¬ BX p2 mb2 A17 := fun z => by have := HT7.out.swap.lt1 _ z; omega
                rw [eA17] at b8 ⊢
                have B8 := Lib.hid b8; have HT8 := Lib.hid (HT7.out.grow hg8); have HX17 := Lib.hid hX17; have Hd8 := Lib.hid (Hd7.out.gr hg8)
                clear b8 g8 s8 hg8 hX17 eA17
                refine (next_calls (BX p1 mb1) w8 p2 mb2 B2 HT8.out.b2 HT8.out.lt1 (by have := HB.out.2.1.out; omega) (HB.out.2.1.k HP.out) HB.out.2.1.own).mono ?_
                intro e w9 hN
                have hN' := HT8.out.swap.next hN
                rw [Hnx2.out] at hN'
                obtain ⟨a9, c9, rfl, hd9, hT9, hb9⟩ := hN'
                have B9 := Lib.hid ((hb9.block A17 (blk_lt B8.out) HX17.out).trans B8.out)
                have Hd9 := Lib.hid (Hd8.out.bt hb9 (fun _ z => .inr z))
                have He9 := Lib.hid hd9
                have HT9 := Lib.hid hT9.swap
                clear hN hT9 hb9 B8 hd9
                have Hsm := Lib.hid (fun (w10 : World) (hg : Gr w9 w10) => rsame6_calls r r (.slice a7 r.d.length c7) (.slice a9 r.d.length c9) w10 (Hd9.out.1.gr hg) (He9.out.1.gr hg) (by have := Hr8.out; omega))
                go_wp2_with (first | (refine wpList_store_blk rfl 33 (.tmp 19) (.tmp 106) rfl w9.heap.size (recC r (.slice a9 r.d.length c9)) rfl rfl _ _ (heap_alloc_new w9 _) rfl info_rec (one_rec _ _ rfl) (fun w10 b10 g10 s10 => ?_); (have hg10 : Gr w9 w10 := gr_new (Gr.al Gr.rfl' (.cells #[.int .i64 0, .string ⟨#[]⟩, .int .i64 0, .int .i64 0, .int .i64 0, .int .i64 0, .int .i64 0, .int .i64 0, .slice none 0 0] 33)) g10 (Nat.le_refl _)); have B10 := Lib.hid b10; have B11 := Lib.hid (hg10.blk B9.out); clear b10) | (refine wpList_load_row rfl 33 (.tmp 17) rfl A17 rfl _ (recC r (.slice a7 r.d.length c7)) (0, 0) _ B11.out Try.underlying33 rfl info_rec ?_) | (refine wpList_load_row rfl 33 (.tmp 19) rfl w9.heap.size rfl _ (recC r (.slice a9 r.d.length c9)) (0, 0) _ B10.out Try.underlying33 rfl info_rec ?_))
                refine (Hsm.out _ hg10).mono ?_
                rintro e w11 ⟨sb, rfl, hsb, hb11⟩
                have hsb' : sb = true := hsb (by trivial)
                subst hsb'
                have HT11 := Lib.hid ((HT9.out.grow hg10).grow hb11)
                clear hsb hb11 hg10 g10 s10
                go_wp2_with fail
                go_roundw
                case rel => exact ⟨j + 1, mb1, _, mb2, _, by omega, by omega, by go_num, HT11, HBn⟩
                case measure => simp [intOf]; omega
              · by_cases hje : j = L.length
                · have h1 : ¬ (j : Int) < (L.length : Int) := by omega
                  have h2 : (j : Int) ≤ (L.length : Int) := by omega
                  have hnx := hb1.none HP.out (by have := HB.out.2.2.2; omega)
                  rw [hnx] at hsame
                  have HBn := Lib.hid (show BI (recsOf L) (offK (recsOf L) L.length) B1 ∧ BI (recsOf L) (offK (recsOf L) L.length) B2 ∧ B1.out = B2.out ∧ B1.n = L.length - (j + 1) from ⟨HB.out.1, HB.out.2.1, HB.out.2.2.1, by have := HB.out.2.2.2; omega⟩)
                  have Hnx1 := Lib.hid hnx; have Hnx2 := Lib.hid hsame
                  have Hje := Lib.hid hje
                  clear hb1 hnx hsame hje
                  go_wp2_with fail
                  refine (next_calls (BX p2 mb2) wr p1 mb1 B1 HT.out.b1 HT.out.swap.lt1 (by have := HB.out.1.out; omega) (HB.out.1.k HP.out) HB.out.1.own).mono ?_
                  intro e w7 hN
                  have hN' := HT.out.next hN
                  rw [Hnx1.out] at hN'
                  obtain ⟨rfl, hT7, hb7⟩ := hN'
                  have HT7 := Lib.hid hT7
                  clear hN hT7 hb7
                  go_wp2_with (refine wpList_store_blk rfl 33 (.tmp 17) (.tmp 101) rfl w7.heap.size (recC noRec (.slice none 0 0)) rfl rfl _ _ (heap_alloc_new w7 _) rfl info_rec (one_rec _ _ rfl) (fun w8 b8 g8 s8 => ?_))
                  have hg8 : Gr w7 w8 := gr_new (Gr.al Gr.rfl' (.cells #[.int .i64 0, .string ⟨#[]⟩, .int .i64 0, .int .i64 0, .int .i64 0, .int .i64 0, .int .i64 0, .int .i64 0, .slice none 0 0] 33)) g8 (Nat.le_refl _)
                  obtain ⟨A17, eA17⟩ : ∃ A, w7.heap.size = A := ⟨_, rfl⟩
                  have hX17 : ¬ BX p2 mb2 A17 := fun z => by have := HT7.out.swap.lt1 _ z; omega
                  rw [eA17] at b8 ⊢
                  have B8 := Lib.hid b8; have HT8 := Lib.hid (HT7.out.grow hg8); have HX17 := Lib.hid hX17
                  clear b8 g8 s8 hg8 hX17 eA17
                  refine (next_calls (BX p1 mb1) w8 p2 mb2 B2 HT8.out.b2 HT8.out.lt1 (by have := HB.out.2.1.out; omega) (HB.out.2.1.k HP.out) HB.out.2.1.own).mono ?_
                  intro e w9 hN
                  have hN' := HT8.out.swap.next hN
                  rw [Hnx2.out] at hN'
                  obtain ⟨rfl, hT9, hb9⟩ := hN'
                  have B9 := Lib.hid (hb9.blk B8.out)
                  have HT9 := Lib.hid hT9.swap
                  clear hN hT9 hb9 B8
                  have Hsm := Lib.hid (fun (w10 : World) (hg : Gr w9 w10) => rsame6_calls noRec noRec (.slice none 0 0) (.slice none 0 0) w10 ⟨rfl, none, 0, rfl, Nat.le_refl _, fun h => absurd h (by decide)⟩ ⟨rfl, none, 0, rfl, Nat.le_refl _, fun h => absurd h (by decide)⟩ (by decide))
                  go_wp2_with (first | (refine wpList_store_blk rfl 33 (.tmp 19) (.tmp 106) rfl w9.heap.size (recC noRec (.slice none 0 0)) rfl rfl _ _ (heap_alloc_new w9 _) rfl info_rec (one_rec _ _ rfl) (fun w10 b10 g10 s10 => ?_); (have hg10 : Gr w9 w10 := gr_new (Gr.al Gr.rfl' (.cells #[.int .i64 0, .string ⟨#[]⟩, .int .i64 0, .int .i64 0, .int .i64 0, .int .i64 0, .int .i64 0, .int .i64 0, .slice none 0 0] 33)) g10 (Nat.le_refl _)); have B10 := Lib.hid b10; have B11 := Lib.hid (hg10.blk B9.out); clear b10) | (refine wpList_load_row rfl 33 (.tmp 17) rfl A17 rfl _ (recC noRec (.slice none 0 0)) (0, 0) _ B11.out Try.underlying33 rfl info_rec ?_) | (refine wpList_load_row rfl 33 (.tmp 19) rfl w9.heap.size rfl _ (recC noRec (.slice none 0 0)) (0, 0) _ B10.out Try.underlying33 rfl info_rec ?_))
                  refine (Hsm.out _ hg10).mono ?_
                  rintro e w11 ⟨sb, rfl, hsb, hb11⟩
                  have hsb' : sb = true := hsb (by trivial)
                  subst hsb'
                  have HT11 := Lib.hid ((HT9.out.grow hg10).grow hb11)
                  clear hsb hb11 hg10 g10 s10
                  go_wp2_with fail
                  go_roundw
                  case rel => exact ⟨j + 1, mb1, _, mb2, _, by omega, by omega, by go_num, HT11, HBn⟩
                  case measure => simp [intOf]; omega
                · have h2 : ¬ (j : Int) ≤ (L.length : Int) := by omega
                  clear hb1 hsame hje
                  go_wp2_with fail
                  go_ret
                  exact ⟨rfl, HT.out.gr⟩
end Go.Proofs.Ytnneebdcaefgoaa

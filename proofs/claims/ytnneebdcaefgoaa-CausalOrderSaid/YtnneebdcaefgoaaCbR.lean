/- CausalOrder: the walk. -/
import Derived.Test.YtnneebdcaefgoaaCbQ
import Derived.Test.YtnneebdcaefgoaaLa
import Derived.Shelf.SortM.SortNone
namespace Go.Proofs.Ytnneebdcaefgoaa
open Go.RowKit Go.Maps

theorem sort_nil (w : World) : Calls Try.prog 42 #[.slice none 0 0] w fun e w' => e = .returned (.tuple #[]) ∧ w' = w :=
  AnyM.slices_Sort_int_none sortI none 0 w
/-- The list, the buffer and the vector. -/
def OrdI (w : World) (L : List (Rec × Value)) (av : Option Addr) (cv p : Nat) (wr : World) (mb : Option Nat) (B : Buf) (v : Value) (Off : Int → Int → Bool) (o : Nat) : Prop :=
  One w wr p mb B (.slice av L.length cv) L ∧ rdX (BX p mb) wr v B.out ∧ OI (recsOf L) Off B o
theorem wrap_id {x : Int} (h : I64 x) : IntKind.i64.wrap x = x := by unfold I64 at h; simp [IntKind.wrap, IntKind.bits, IntKind.signed]; omega
theorem OI.fin {l : List Rec} (hl : LogP l) {Off : Int → Int → Bool} {B : Buf} {o k : Nat} (h : OI l Off B o) (hb : Back l Off k) (hk : l.length ≤ k) (hn : nextAll B = none) : B.n = 0 ∧ o = l.length :=
  h.done hl (fun j hj => hb j hj (by omega)) hn
set_option maxRecDepth 100000 in
set_option maxHeartbeats 8000000 in
theorem order_law (v0 : Value) (ops : List OpR) (v1 : Value) (ord : List Int) (w : World) (hv0 : rdRow w 10 v0 ops.length (ops.flatMap opC)) (hops : ∀ o ∈ ops, OpOk w o) (hlm : ops.length ≤ maxLen)
    (hv1 : rdRow w 1 v1 ord.length (encI ord)) (hord : ∀ x ∈ ord, I64 x) (hol : ord.length ≤ maxLen) :
    Calls Try.prog 5 #[v0, v1] w fun e w' => e = .returned (.bool true) ∧ Gr w w' := by
  have hnil : ∀ W, rdRow W 1 (.slice none 0 0) ([] : List Int).length (encI []) := fun W => ⟨rfl, none, 0, rfl, Nat.le_refl _, fun h => by simp at h⟩
  have Hnew := Lib.hid (fun W => new_x 400 (.slice none 0 0) [] W (hnil W) (by decide))
  have Hlog := Lib.hid (fun W (hg : Gr w W) => logged_calls v0 ops W ⟨(hv0.gr hg).1, (hv0.gr hg).2⟩ (fun o ho => ⟨(hops o ho).1, (hops o ho).2.1, (hops o ho).2.2.1.gr hg, (hops o ho).2.2.2⟩) hlm)
  obtain ⟨a1, cap1, rfl, hcap1, hrd1⟩ := rd_at hv1
  have HOrd := Lib.hid hord; have HRd := Lib.hid hrd1
  unfold maxLen at hol
  clear hnil hv0 hops hlm hord hv1 hrd1
  go_enter Try.func5, Try.ntmps5
  go_wp2_with fail
  refine (awake_calls _).mono ?_
  rintro e w1 ⟨rfl, hg1⟩
  have G1 := Lib.hid hg1
  clear hg1
  go_wp2_with fail
  refine (Hlog.out _ G1.out).mono ?_
  rintro e w2 ⟨v, L, rfl, hrow, hdeps, hlp, hn40, hg2⟩
  have G2 := Lib.hid (G1.out.tr hg2)
  have HP := Lib.hid (show LogP (recsOf L) from hlp)
  have hrow' := own_mono hrow G1.out.size
  obtain ⟨av, cv, rfl⟩ := form_row hrow'
  have HRow := Lib.hid hrow'; have HDeps := Lib.hid hdeps
  clear hrow hrow' hdeps hlp hg2 Hlog
  go_wp2_with fail
  refine (Hnew.out _).mono ?_
  rintro e w3 ⟨p1, rfl, hp1, hB1, hg3⟩
  have HO := Lib.hid (show One w w3 p1 none (bufNew 400 []) (.slice av L.length cv) L from ⟨G2.out.tr hg3, BufX.at hB1 (fun k hk => by rcases hk with hk | hk; exact .inr hk; cases hk), own_gr HRow.out hg3, fun k e z => (by rcases z with z | z; (have := (HRow.out.lt k e).2; omega); cases z), fun x hx => ((rdX_below (HDeps.out x hx)).mono (fun k hk => by rcases hk with hk | hk; (rw [hk]; exact hp1); cases hk)).gr hg3, fun k hk => (by rcases hk with rfl | hk; exact Nat.le_trans G2.out.size hp1; cases hk)⟩)
  clear hp1 hB1 hg3 HRow HDeps G2 G1 Hnew
  have HN := Lib.hid (show nextAll (bufNew 400 []) = none from (BI.new (recsOf L) [] (by decide)).none HP.out rfl)
  have HOI := Lib.hid (OI.new (recsOf L) HP.out)
  have HV0 := Lib.hid (show rdX (BX p1 none) w3 (.slice none 0 0) (bufNew 400 []).out by rw [bufNew_out (by decide)]; exact rdX_nil)
  go_upto_if 26 with (fail)
  go_cut [10] (fun tx wx => ∃ t : Nat, t ≤ ord.length ∧ t ≤ 200 ∧ tx = .int .i64 t ∧ w3 = wx)
  case first =>
    by_cases hgt : 200 < ord.length
    · have hgt' : (200 : Int) < (ord.length : Int) := by omega
      go_wp2_with fail
      go_meet
      exact ⟨200, by omega, by omega, rfl, rfl⟩
    · have hgt' : ¬ (200 : Int) < (ord.length : Int) := by omega
      go_wp2_with fail
      go_meet
      exact ⟨ord.length, by omega, by omega, rfl, rfl⟩
  case rest =>
    obtain ⟨t, ht1, ht2, rfl, rfl⟩ := hcut
    go_wp2_with fail
    go_loopw [8, 9, 11] (fun vv ov iv wr => ∃ (i o : Nat) (mb : Option Nat) (B : Buf) (Off : Int → Int → Bool), i ≤ t + L.length ∧ o ≤ L.length ∧ iv = .int .i64 i ∧ ov = .int .i64 o ∧ Hid (One w wr p1 mb B (.slice av L.length cv) L ∧ rdX (BX p1 mb) wr vv B.out ∧ OI (recsOf L) Off B o ∧ nextAll B = none ∧ Back (recsOf L) Off (i - t))) (fun _ _ iv _ => t + L.length - (intOf iv).toNat)
    case atStart => exact ⟨0, 0, none, _, _, Nat.zero_le _, Nat.zero_le _, rfl, rfl, Lib.hid ⟨HO.out, HV0.out, HOI.out, HN.out, by rw [Nat.zero_sub]; exact Back.zero _ _⟩⟩
    case round =>
      clear HO HN HOI HV0
      obtain ⟨i, o, mb, B, Off, hi, ho, rfl, rfl, HBI⟩ := hrel
      have hs1 : IntKind.i64.wrap ((t : Int) + (L.length : Int)) = (t : Int) + (L.length : Int) := wrap_id (by unfold I64; omega)
      by_cases hlt : i < t + L.length
      · have h1 : (i : Int) < (t : Int) + (L.length : Int) := by omega
        by_cases hL : L.length = 0
        · have hL' : ((L.length : Int) == 0) = true := by simp [hL]
          have HFin := Lib.hid (HBI.out.2.2.1.fin HP.out HBI.out.2.2.2.2 (by rw [recsOf_len]; omega) HBI.out.2.2.2.1)
          obtain ⟨hn0, ho0⟩ := HFin.out
          rw [recsOf_len] at ho0
          subst ho0
          go_wp2_with fail
          refine (len_calls _ p1 mb B HBI.out.1.b).mono ?_
          rintro e w8 ⟨rfl, rfl⟩
          rw [hn0]
          go_wp2_with fail
          refine (lacks_none sort_nil _ p1 mb B HBI.out.1.b hn0).mono ?_
          rintro e w9 ⟨rfl, hg9⟩
          have HG9 := Lib.hid (HBI.out.1.gr.tr hg9)
          clear hg9
          go_wp2_with fail
          go_ret
          exact ⟨rfl, HG9.out⟩
        · have hL' : ((L.length : Int) == 0) = false := by rw [beq_eq_false_iff_ne]; omega
          go_upto_if 47 with (fail)
          go_cut [12] (fun kx wx => ∃ k : Nat, k < L.length ∧ kx = .int .i64 k ∧ Hid (t ≤ i → k + (i - t) + 1 = L.length) ∧ wr = wx)
          case first =>
            by_cases hit : i < t
            · have hit' : (i : Int) < (t : Int) := by omega
              obtain ⟨b1, o1, rfl, hc1⟩ := HRd.out (by omega)
              have c0 := keepc HBI.out.1.gr (hc1 i (by omega))
              have hx := HOrd.out ord[i] (List.getElem_mem (by omega))
              clear hc1
              generalize ord[i] = x at *
              have g1 : (0 : Int) ≤ (i : Int) := by omega
              have g2 : (i : Int) < (ord.length : Int) := by omega
              by_cases hneg : x < 0
              · have hx' : I64 x := hx
                unfold I64 at hx'
                have hw1 : IntKind.i64.wrap (x + 1) = x + 1 := wrap_id (by unfold I64; omega)
                have hw2 : IntKind.i64.wrap (-(x + 1)) = -(x + 1) := wrap_id (by unfold I64; omega)
                have hmod0 := Int.emod_nonneg (-(x + 1)) (show (L.length : Int) ≠ 0 by omega)
                have hmod1 := Int.emod_lt_of_pos (-(x + 1)) (show (0 : Int) < (L.length : Int) by omega)
                obtain ⟨kk, hkk⟩ := Int.eq_ofNat_of_zero_le hmod0
                have htm : (-(x + 1)).tmod (L.length : Int) = (kk : Int) := by rw [Int.tmod_eq_emod_of_nonneg (by omega)]; exact hkk
                have hne0 : ¬ (L.length : Int) = 0 := by omega
                have hkl : kk < L.length := by omega
                clear hmod0 hmod1 hx hx' hkk
                go_wp2_with fail
                go_meet
                exact ⟨kk, hkl, rfl, Lib.hid (fun z => by omega), rfl⟩
              · have hx' : I64 x := hx
                unfold I64 at hx'
                have hmod0 := Int.emod_nonneg x (show (L.length : Int) ≠ 0 by omega)
                have hmod1 := Int.emod_lt_of_pos x (show (0 : Int) < (L.length : Int) by omega)
                obtain ⟨kk, hkk⟩ := Int.eq_ofNat_of_zero_le hmod0
                have htm : x.tmod (L.length : Int) = (kk : Int) := by rw [Int.tmod_eq_emod_of_nonneg (by omega)]; exact hkk
                have hne0 : ¬ (L.length : Int) = 0 := by omega
                have hkl : kk < L.length := by omega
                clear hmod0 hmod1 hx hx' hkk
                go_wp2_with fail
                go_meet
                exact ⟨kk, hkl, rfl, Lib.hid (fun z => by omega), rfl⟩
            · have hit' : ¬ (i : Int) < (t : Int) := by omega
              have hw1 : IntKind.i64.wrap ((L.length : Int) - 1) = (L.length : Int) - 1 := wrap_id (by unfold I64; omega)
              have hw2 : IntKind.i64.wrap ((i : Int) - (t : Int)) = (i : Int) - (t : Int) := wrap_id (by unfold I64; omega)
              have hw3 : IntKind.i64.wrap ((L.length : Int) - 1 - ((i : Int) - (t : Int))) = (L.length : Int) - 1 - ((i : Int) - (t : Int)) := wrap_id (by unfold I64; omega)
              go_wp2_with fail
              go_meet
              exact ⟨L.length - 1 - (i - t), by omega, by congr 1; omega, Lib.hid (fun z => by omega), rfl⟩
          case rest =>
            obtain ⟨k, hk, rfl, hkb, rfl⟩ := hcut
            have hks : k < (recsOf L).length := by rw [recsOf_len]; exact hk
            have g1 : (0 : Int) ≤ (k : Int) := by omega
            have g2 : (k : Int) < (L.length : Int) := by omega
            obtain ⟨bg, og, cg, eg, _, hrg⟩ := rd_range recL 9 (fun _ => rfl) (rdRow_of_own HBI.out.1.row) (by omega)
            injection eg with eg1 eg2 eg3
            subst eg1
            have hdx := HBI.out.1.deps _ (List.getElem_mem hk)
            have hof := HBI.out.2.2.1.offer HP.out (by rw [recsOf_len]; omega) hks
            have hbk : Back (recsOf L) (offAdd Off (recsOf L)[k]) (i + 1 - t) := by
              by_cases hti : t ≤ i
              · rw [show i + 1 - t = i - t + 1 by omega]
                exact HBI.out.2.2.2.2.succ hks (by rw [recsOf_len]; exact hkb.out hti)
              · rw [show i + 1 - t = 0 by omega]; exact Back.zero _ _
            have hrk := (HP.out k hks).1
            rw [recsOf_get] at hof hrk hbk
            have Hrg := Lib.hid (hrg k hk)
            obtain ⟨x, hx⟩ : ∃ x, L[k] = x := ⟨_, rfl⟩
            rw [hx] at Hrg hdx hof hrk hbk
            have h8 := recOk_len hrk
            have Hof := Lib.hid (offer_calls (fun _ => False) wr p1 mb B (BufE.of HBI.out.1.b) (fun _ z => z.elim) (by have := HBI.out.2.2.1.bi.out; omega) (by have := HBI.out.2.2.1.bi.le; rw [recsOf_len] at this; omega) x.1 x.2 hdx (by omega))
            have HOI := Lib.hid hof; have HBk := Lib.hid hbk
            obtain ⟨Off', hOff'⟩ : ∃ Off', offAdd Off x.1 = Off' := ⟨_, rfl⟩
            rw [hOff'] at HOI HBk
            clear hrg eg3 hx hdx hof hrk hbk h8 hOff' hkb
            go_wp2_with (first | (refine wpList_load_mid rfl 33 (.tmp 64) rfl bg (og + k * 9) rfl (recL x) _ Hrg.out Try.underlying33 rfl info_rec ?_))
            refine Hof.out.mono ?_
            intro e w5 hO
            obtain ⟨rfl, mb5, f1, f2, f3, _⟩ := hO
            have HO5 := Lib.hid (HBI.out.1.turn f1.at f2 f3)
            have HV5 := Lib.hid (HBI.out.2.1.turn f2 f3)
            have HI5 := HOI
            rw [← offB_out B x.1] at HV5
            clear f1 f2 f3 HOI Hof HBI
            generalize offB B x.1 = B5 at HO5 HV5 HI5
            go_wp2_with fail
            go_loopw [8, 9] (fun vv ov wx => ∃ (o : Nat) (B : Buf), o ≤ L.length ∧ ov = .int .i64 o ∧ Hid (One w wx p1 mb5 B (.slice (some ⟨bg, og, none⟩) L.length cv) L ∧ rdX (BX p1 mb5) wx vv B.out ∧ OI (recsOf L) Off' B o)) (fun _ ov _ => L.length - (intOf ov).toNat)
            case atStart => exact ⟨o, B5, ho, rfl, Lib.hid ⟨HO5.out, HV5.out, HI5.out⟩⟩
            case round =>
              clear HO5 HV5 HI5
              obtain ⟨o2, B6, ho2, rfl, HR⟩ := hrel
              have HNx := Lib.hid (next_calls (fun _ => False) _ p1 mb5 B6 (BufE.of HR.out.1.b) (fun _ z => z.elim) (by have := HR.out.2.2.bi.out; omega) (HR.out.2.2.bi.k HP.out) HR.out.2.2.bi.own)
              have Ho8 := Lib.hid (show B6.out.length ≤ 1000000 by have := HR.out.2.2.bi.out; omega)
              go_wp2_with fail
              refine HNx.out.mono ?_
              intro e w6 hN
              have hN' := next_is hN
              clear hN HNx
              cases hnx : nextAll B6 with
              | none =>
                rw [hnx] at hN'
                obtain ⟨rfl, hg6⟩ := hN'
                have Hnx := Lib.hid hnx
                have HO6 := Lib.hid (HR.out.1.grow hg6); have HV6 := Lib.hid (HR.out.2.1.gr hg6); have HI6 := Lib.hid HR.out.2.2
                clear hg6 hnx HR
                go_wp2_with (refine wpList_store_blk rfl 33 (.tmp 13) (.tmp 70) rfl w6.heap.size (recC noRec (.slice none 0 0)) rfl rfl _ _ (heap_alloc_new w6 _) rfl info_rec (one_rec _ _ rfl) (fun w7 b7 g7 s7 => ?_))
                have hg7 : Gr w6 w7 := gr_new (Gr.al Gr.rfl' (.cells #[.int .i64 0, .string ⟨#[]⟩, .int .i64 0, .int .i64 0, .int .i64 0, .int .i64 0, .int .i64 0, .int .i64 0, .slice none 0 0] 33)) g7 (Nat.le_refl _)
                have HO7 := Lib.hid (HO6.out.grow hg7); have HV7 := Lib.hid (HV6.out.gr hg7)
                clear b7 g7 s7 hg7 HO6 HV6
                refine (out_calls w7 p1 mb5 B6 HO7.out.b Ho8.out).mono ?_
                rintro e w8 ⟨v8, rfl, ho8, hb8⟩
                have Hsame := Lib.hid ((same_calls _ v8 B6.out B6.out w8 (HV7.out.1.gr hb8) (rdRow_of_own ho8) Ho8.out).mono (fun e w' h => (show e = .returned (.bool true) ∧ Gr w8 w' from ⟨h.1.trans (by rw [decide_eq_true rfl]), h.2⟩)))
                have HO8 := Lib.hid (HO7.out.grow hb8); have HV8 := Lib.hid (HV7.out.gr hb8)
                clear ho8 hb8 HO7 HV7
                go_wp2_with fail
                refine Hsame.out.mono ?_
                rintro e w9 ⟨rfl, hg9⟩
                have HO9 := Lib.hid (HO8.out.grow hg9); have HV9 := Lib.hid (HV8.out.gr hg9)
                clear hg9 HO8 HV8 Hsame
                go_wp2_with fail
                go_roundw
                case rel => exact ⟨i + 1, o2, mb5, B6, Off', by omega, ho2, by go_num, rfl, Lib.hid ⟨HO9.out, HV9.out, HI6.out, Hnx.out, HBk.out⟩⟩
                case measure => simp [intOf]; omega
              | some kr =>
                obtain ⟨kk, r⟩ := kr
                rw [hnx] at hN'
                obtain ⟨d6, rfl, hd6, hB6, hT6⟩ := hN'
                obtain ⟨hoi, hcov, hst, hq, hd8, hol2⟩ := HR.out.2.2.take HP.out hnx
                have hann := atV_nn B6.out kk
                rw [recsOf_len] at hol2
                have Hd61 := Lib.hid (rdX_one hd6)
                have HO6 := Lib.hid (HR.out.1.turn hB6.at hT6 (.inl rfl))
                have hv6 := HR.out.2.1.turn hT6 (.inl rfl)
                have hwo : (takeB B6 kk r).out = withV B6.out r.st r.q := by show withV B6.out kk r.q = _; rw [hst]
                have HI6 := Lib.hid hoi; have HC6 := Lib.hid (decide_eq_true hcov)
                have Hcv := Lib.hid (fun W (hg : Gr w6 W) => (rcovers_calls _ d6 B6.out r.d W (hv6.1.gr hg) (hd6.1.gr hg) Ho8.out (by omega)).mono (fun e w' h => (show e = .returned (.bool true) ∧ Gr W w' from ⟨h.1.trans (by rw [decide_eq_true hcov]), h.2⟩)))
                have hat := fun W (hg : Gr w6 W) => rat_calls _ B6.out r.st W (hv6.1.gr hg) Ho8.out
                have hwi := fun W (hg : Gr w6 W) => rwith_calls _ B6.out r.st r.q W (hv6.1.gr hg) Ho8.out
                rw [hst] at hat
                obtain ⟨a, ha⟩ : ∃ a, atV B6.out kk = a := ⟨_, rfl⟩
                rw [ha] at hat hq hann
                have hwr : IntKind.i64.wrap (a + 1) = a + 1 := wrap_id (by unfold topN at hann; unfold I64; omega)
                rw [← hst] at hat
                have HWo := Lib.hid hwo; have HAt := Lib.hid hat; have HWi := Lib.hid hwi; have HQ := Lib.hid hq
                clear hd6 hB6 hT6 hoi hcov hst hq hann hv6 hwo hat hwi ha hnx HR hd8
                have gol : ¬ (L.length : Int) < (o2 : Int) + 1 := by omega
                go_wp2_with (refine wpList_store_blk rfl 33 (.tmp 13) (.tmp 70) rfl w6.heap.size (recC r d6) rfl rfl _ _ (heap_alloc_new w6 _) rfl info_rec (one_rec _ _ Hd61.out) (fun w7 b7 g7 s7 => ?_); (have c8 : w7.cell? ⟨w6.heap.size, 8, none⟩ = some d6 := by rw [cell_of_row _ _ _ _ _ _ b7]; rfl))
                have hg7 : Gr w6 w7 := gr_new (Gr.al Gr.rfl' (.cells #[.int .i64 0, .string ⟨#[]⟩, .int .i64 0, .int .i64 0, .int .i64 0, .int .i64 0, .int .i64 0, .int .i64 0, .slice none 0 0] 33)) g7 (Nat.le_refl _)
                have c6 : w7.cell? ⟨w6.heap.size, 6, none⟩ = some (.int .i64 r.st) := by rw [cell_of_row _ _ _ _ _ _ b7]; rfl
                have c7 : w7.cell? ⟨w6.heap.size, 7, none⟩ = some (.int .i64 (a + 1)) := by rw [cell_of_row _ _ _ _ _ _ b7, ← HQ.out]; rfl
                refine (Hcv.out _ hg7).mono ?_
                rintro e w8 ⟨rfl, hg8⟩
                have H6 := Lib.hid (keepc hg8 c6); have H7 := Lib.hid (keepc hg8 c7); have G8 := Lib.hid (hg7.tr hg8)
                clear b7 g7 s7 hg7 c6 c7 c8 hg8 Hcv
                go_wp2_with fail
                have cw6 := fun g : GrW w8 => keepc g.h H6.out; have cw7 := fun g : GrW w8 => keepc g.h H7.out
                (refine region_gr (by kernel_rfl) (by kernel_rfl) ?_; (repeat (go_big_quiet_step ((first | (go_at_call 19; rename_i g9; refine (HAt.out _ (G8.out.tr g9.h)).mono ?_; rintro e w2 ⟨rfl, hb⟩; exact ⟨rfl, ⟨w2, g9.h.tr hb⟩, rfl⟩))))); refine wpQuiet_nil ?_; intro wq hw9; obtain ⟨g9, e9⟩ := hw9; have hwq := g9.h; rw [← e9] at hwq; clear e9 g9)
                have d6' := keepc hwq H6.out; have d7' := keepc hwq H7.out
                have GQ := Lib.hid (G8.out.tr hwq)
                clear cw6 cw7 hwq
                go_wp2_with fail
                rw [← HQ.out]
                refine (HWi.out _ GQ.out).mono ?_
                rintro e w9 ⟨v9, rfl, ho9, hb9⟩
                have HO9 := Lib.hid ((HO6.out.grow GQ.out).grow hb9)
                have HV9 := Lib.hid (show rdX (BX p1 mb5) w9 v9 (takeB B6 kk r).out by rw [HWo.out]; exact rdX_fresh (HO6.out.grow GQ.out).b ho9)
                clear ho9 hb9
                go_wp2_with fail
                go_roundw
                case rel => exact ⟨o2 + 1, takeB B6 kk r, hol2, by go_num, Lib.hid ⟨HO9.out, HV9.out, HI6.out⟩⟩
                case measure => simp [intOf]; omega
      · have h1 : ¬ (i : Int) < (t : Int) + (L.length : Int) := by omega
        have HFin := Lib.hid (HBI.out.2.2.1.fin HP.out HBI.out.2.2.2.2 (by rw [recsOf_len]; omega) HBI.out.2.2.2.1)
        obtain ⟨hn0, ho0⟩ := HFin.out
        rw [recsOf_len] at ho0
        subst ho0
        go_wp2_with fail
        refine (len_calls _ p1 mb B HBI.out.1.b).mono ?_
        rintro e w8 ⟨rfl, rfl⟩
        rw [hn0]
        go_wp2_with fail
        refine (lacks_none sort_nil _ p1 mb B HBI.out.1.b hn0).mono ?_
        rintro e w9 ⟨rfl, hg9⟩
        have HG9 := Lib.hid (HBI.out.1.gr.tr hg9)
        clear hg9
        go_wp2_with fail
        go_ret
        exact ⟨rfl, HG9.out⟩
end Go.Proofs.Ytnneebdcaefgoaa

/- The ring: the reference's points. -/
import Derived.Test.YtomhdkppgfcaaaaRgU
import Derived.Test.YtomhdkppgfcaaaaRgM
import Derived.Laws.AppendOwnNone
namespace Go.Proofs.Ytomhdkppgfcaaaa
open Go.RowKit

theorem conv3b (w : World) (n k : Int) (x : Obj) : (convert 57 9 (.slice (some ⟨w.heap.size, 0, none⟩) 3 3)).run Try.prog ((w.alloc (.cells #[.int .u8 110, .int .u8 (IntKind.u8.wrap n), .int .u8 (IntKind.u8.wrap k)] 5)).alloc x).drew = .ok (.string (key3 n k)) ((w.alloc (.cells #[.int .u8 110, .int .u8 (IntKind.u8.wrap n), .int .u8 (IntKind.u8.wrap k)] 5)).alloc x).drew :=
  run_convert_bytes_arg _ 57 5 Try.underlying57 Try.underlying5 w.heap.size 0 3 3 [110, IntKind.u8.wrap n, IntKind.u8.wrap k] rfl (fun i hi => by
    rw [World.cell?_drew]
    refine keepc (Gr.al Gr.rfl' x) ?_
    refine cells_at (W := w) (t := 5) (cs := #[.int .u8 110, .int .u8 (IntKind.u8.wrap n), .int .u8 (IntKind.u8.wrap k)]) w.heap.size rfl i _ ?_
    match i, hi with
    | 0, _ | 1, _ | 2, _ => rfl) 9 Try.underlying9
theorem encPs_cons (x : Pt) (r : List Pt) : encPs (x :: r) = encP x ++ encPs r := rfl
theorem flat2_len (l : List Pt) : (encPs l).length = l.length * 2 := by
  induction l with
  | nil => rfl
  | cons x r ih => rw [encPs_cons, List.length_append, ih]; simp [encP]; omega
theorem encPs_take (l : List Pt) (m : Nat) : encPs (l.take m) = (encPs l).take (m * 2) := by
  induction l generalizing m with
  | nil => simp
  | cons x r ih =>
    cases m with
    | zero => simp
    | succ m => rw [List.take_succ_cons, encPs_cons, encPs_cons, ih, Nat.succ_mul]; rfl
theorem encPs_drop (l : List Pt) (m : Nat) : encPs (l.drop m) = (encPs l).drop (m * 2) := by
  induction l generalizing m with
  | nil => simp
  | cons x r ih =>
    cases m with
    | zero => simp
    | succ m => rw [List.drop_succ_cons, encPs_cons, ih, Nat.succ_mul]; rfl
set_option maxRecDepth 100000 in
set_option maxHeartbeats 6000000 in
theorem rpoints_calls (v : Value) (l : List Int) (w : World) (hv : rdRow w 1 v l.length (encI l)) (hk : l.length ≤ 1000000) :
    Calls Try.prog 20 #[v] w fun e w' => ∃ v' ps, e = .returned v' ∧ IsPts (nodesOf l) ps ∧ w'.ownsRow w.heap.size 47 2 v' ps.length (encPs ps) ∧ Gr w w' := by
  have hn := rnodes_calls v l w hv hk
  have Hn := Lib.hid hn
  have hnl := nodesTo_len l 16
  have hnl2 : (nodesOf l).length ≤ 16 := hnl
  clear hv hn hnl
  have hNm := fun x (hx : x ∈ nodesOf l) => (mem_nodesOf.1 hx).2
  generalize nodesOf l = ns at *
  have HNm := Lib.hid hNm
  clear hNm
  obtain ⟨j0, hj, hy0, hy1, hy2⟩ := info_parts (show (Try.prog.info? 47).map (fun i => (i.zero, i.size, i.bytes)) = some (some (.agg #[.int .u64 0, .int .i64 0]), 2, 16) by kernel_rfl)
  go_enter Try.func20, Try.ntmps20
  go_wp2_with fail
  refine Hn.out.mono ?_
  rintro e w1 ⟨v1, rfl, ho1, hb1⟩
  obtain ⟨a1, c1, e1, hc1, hcells⟩ := rd_at (rdRow_of_own ho1)
  subst e1
  have Hns := Lib.hid hcells
  clear ho1 hcells Hn
  have Hb1 := Lib.hid hb1
  clear hb1
  go_wp2_with fail
  go_loopw [3, 5, 6, 7, 8, 9] (fun u i _ _ _ _ wr => ∃ j qs, j ≤ ns.length ∧ i = .int .i64 (j : Nat) ∧ PtsOf ns j 0 qs ∧ (qs = [] → u = .slice none 0 0) ∧ wr.ownsRow w.heap.size 47 2 u qs.length (encPs qs) ∧ Gr w1 wr) (fun _ i _ _ _ _ _ => ns.length - (intOf i).toNat)
  case atStart => exact ⟨0, [], Nat.zero_le _, rfl, ptsOf_zero ns, fun _ => rfl, World.ownsRow_nil _ _ _ _, Gr.rfl'⟩
  case round =>
    obtain ⟨j, qs, hj1, rfl, hpt, hnil, hown, hg⟩ := hrel
    have Hpt := Lib.hid hpt; have Hnil := Lib.hid hnil; have Hown := Lib.hid hown; have Hg := Lib.hid hg
    obtain ⟨ua, uc, hu⟩ := own_slice hown
    subst hu
    clear hpt hnil hown hg
    by_cases hlt : j < ns.length
    · have g1 : (j : Int) < ns.length := by omega
      obtain ⟨wo, rfl⟩ : ∃ wo : World, wo = wr := ⟨_, rfl⟩
      go_wp2_with fail
      go_loopw [3, 6, 7, 8, 9] (fun u i _ _ _ wr => ∃ k qs, k ≤ 8 ∧ i = .int .i64 (k : Nat) ∧ PtsOf ns j k qs ∧ (qs = [] → u = .slice none 0 0) ∧ wr.ownsRow w.heap.size 47 2 u qs.length (encPs qs) ∧ Gr w1 wr) (fun _ i _ _ _ _ => 8 - (intOf i).toNat)
      case atStart => exact ⟨0, qs, Nat.zero_le _, rfl, Hpt.out, Hnil.out, Hown.out, Hg.out⟩
      case round =>
        clear Hpt Hnil Hown Hg
        obtain ⟨k, qs, hk8, rfl, hpt, hnil, hown, hg⟩ := hrel
        have hql := ptsOf_len hpt (Nat.le_of_lt hlt)
        have Hpt := Lib.hid hpt; have Hnil := Lib.hid hnil; have Hown := Lib.hid hown; have Hg := Lib.hid hg
        have hgz := hg.size
        have hqb : qs.length ≤ 136 := by omega
        obtain ⟨qa, qc, hu⟩ := own_slice hown
        subst hu
        clear hpt hnil hown hg hql
        by_cases h8 : k < 8
        · have g2 : (k : Int) < 8 := by omega
          obtain ⟨b, o, hea, hcl⟩ := Hns.out (by omega)
          subst hea
          have c0 := keepc Hg.out (hcl j hlt)
          obtain ⟨n, hnn⟩ : ∃ n, ns[j] = n := ⟨_, rfl⟩
          have Hnn := Lib.hid (show ns.getD j 0 = n by rw [← hnn]; simp [List.getD, hlt])
          have hn16 := HNm.out _ (List.getElem_mem hlt)
          rw [hnn] at c0 hn16
          clear hcl hnn
          have hks := key3_size n k
          have Hh := Lib.hid (rhash_calls (key3 n k) (by omega))
          have hcv := conv3 wr n k
          have hcv2 := fun x => conv3b wr n k x
          have hcv3 := fun x => (by have h := conv3 (wr.alloc x) n k; have hz : (wr.alloc x).heap.size = wr.heap.size + 1 := by simp
                                    rw [hz] at h; exact h : (convert 57 9 (.slice (some ⟨wr.heap.size + 1, 0, none⟩) 3 3)).run Try.prog ((wr.alloc x).alloc (.cells #[.int .u8 110, .int .u8 (IntKind.u8.wrap n), .int .u8 (IntKind.u8.wrap k)] 5)).drew = .ok (.string (key3 n k)) ((wr.alloc x).alloc (.cells #[.int .u8 110, .int .u8 (IntKind.u8.wrap n), .int .u8 (IntKind.u8.wrap k)] 5)).drew)
          go_upto_region 9 with fail
          go_cut [7] from 22 to 36 (fun v wx => ∃ B, v = .pointer (some ⟨B, 0, none⟩) ∧ wx.cell? ⟨B, 0, none⟩ = some (.int .u64 (hashS (key3 n k))) ∧ wx.cell? ⟨B, 1, none⟩ = some (.int .i64 n) ∧ Gr wr wx)
          case first =>
            have c0a := fun o => keepc (Gr.al Gr.rfl' o) c0
            have c0b := fun o1 => keepc (Gr.dr (Gr.al Gr.rfl' o1)) c0
            have c0c := fun o1 o2 => keepc (Gr.dr (Gr.al (Gr.al Gr.rfl' o1) o2)) c0
            have c0d := fun o1 o2 => keepc (Gr.al (Gr.dr (Gr.al Gr.rfl' o1)) o2) c0
            have c0e := fun o1 o2 => keepc (Gr.al (Gr.al Gr.rfl' o1) o2) c0
--[[
            go_region_law (first
              | (go_simp; go_at_call 11; refine (Hh.out _).mono ?_; rintro e w' ⟨rfl, rfl⟩))
            all_goals
              go_wp2_with fail
              go_meet
              refine ⟨_, rfl, ?_, ?_, by (repeat (first | exact Gr.rfl' | refine Gr.al ?_ _ | refine Gr.dr ?_ | refine Gr.drN ?_ | refine Gr.sc ?_ (by simp <;> omega) _ | refine Gr.tr ?_ (by assumption)))⟩
              all_goals
                rw [World.cell?_drew]
                first
                  | (have h := cells_at (W := wr.alloc (.cells #[.int .u8 110, .int .u8 (IntKind.u8.wrap n), .int .u8 (IntKind.u8.wrap k)] 5)) (t := 47) (cs := #[.int .u64 (hashS (key3 n k)), .int .i64 n]) (wr.heap.size + 1) (by simp) 0 _ rfl; exact h)
                  | (have h := cells_at (W := wr.alloc (.cells #[.int .u8 110, .int .u8 (IntKind.u8.wrap n), .int .u8 (IntKind.u8.wrap k)] 5)) (t := 47) (cs := #[.int .u64 (hashS (key3 n k)), .int .i64 n]) (wr.heap.size + 1) (by simp) 1 _ rfl; exact h)
                  | (refine keepc (Gr.al Gr.rfl' _) ?_; have h := cells_at (W := wr) (t := 47) (cs := #[.int .u64 (hashS (key3 n k)), .int .i64 n]) wr.heap.size rfl 0 _ rfl; exact h)
                  | (refine keepc (Gr.al Gr.rfl' _) ?_; have h := cells_at (W := wr) (t := 47) (cs := #[.int .u64 (hashS (key3 n k)), .int .i64 n]) wr.heap.size rfl 1 _ rfl; exact h)
                  | (trace_state; fail)
--]]
          case rest =>
            obtain ⟨B, rfl, p0, p1, hgx⟩ := hcut
            have Hgx := Lib.hid hgx
            obtain ⟨X, hX⟩ : ∃ X : Pt, (hashS (key3 n k), n) = X := ⟨_, rfl⟩
            have HX := Lib.hid (show ptAt (ns.getD j 0) k = X by rw [Hnn.out]; exact hX)
            have e0 : hashS (key3 n k) = X.1 := by rw [← hX]
            have e1 : n = X.2 := by rw [← hX]
            rw [e0] at p0; rw [e1] at p1
            have P0 := Lib.hid p0; have P1 := Lib.hid p1
            clear hX e0 hcv hcv2 hcv3 Hh hks c0 hgx e1 p0 p1
            have Hst := Lib.hid (ptsOf_step Hpt.out)
            rw [HX.out] at Hst
            clear HX Hnn
            obtain ⟨wk, rfl⟩ : ∃ wk : World, wk = wr := ⟨_, rfl⟩
            go_wp2_with fail
            go_loopw [8] (fun a wx => ∃ m : Nat, m ≤ qs.length ∧ a = .int .i64 m ∧ (∀ i (hi : i < qs.length), i < m → leP qs[i] X) ∧ Gr wc wx) (fun a _ => qs.length - (intOf a).toNat)
            case atStart => exact ⟨0, Nat.zero_le _, rfl, fun i _ hi => by omega, Gr.rfl'⟩
            case round =>
              obtain ⟨m, hm, rfl, hle, hgm⟩ := hrel
              have Hle := Lib.hid hle
              have Hgm := Lib.hid hgm
              have hgm0 := Hg.out.tr (Hgx.out.tr hgm)
              have hgz9 := (Hgx.out.tr hgm).size
              have hown := own_gr Hown.out (Hgx.out.tr hgm)
              have p0 := keepc hgm P0.out
              have p1 := keepc hgm P1.out
              have Hgm0 := Lib.hid hgm0
              have Hown3 := Lib.hid hown
              clear hle hgm hgm0
              have hcs : (∃ hlt : m < qs.length, leP qs[m] X) ∨ ((∃ h : m < qs.length, ¬ leP qs[m] X) ∨ m = qs.length) := by
                by_cases h : m < qs.length
                · by_cases h2 : leP qs[m] X
                  · exact .inl ⟨h, h2⟩
                  · exact .inr (.inl ⟨h, h2⟩)
                · exact .inr (.inr (by omega))
              rcases hcs with ⟨hml, hyx⟩ | hend
              · have hxx := hyx
--[[
                obtain ⟨g, gc, hvg, hgb, hgl⟩ := own_at hown (by omega)
                injection hvg with f1 f2 f3
                subst f1; subst f3
                have hcl := hown.cells (g := g) rfl
                have q0 := hcl _ _ (encPs_get qs m hml).1
                have q1 := hcl _ _ (encPs_get qs m hml).2
                rw [Addr.add_mid, Nat.zero_add] at q0 q1
                have Hstep := Lib.hid (show ∀ i (hi : i < qs.length), i < m + 1 → leP qs[i] X from fun i hi h => by
                  by_cases e : i = m
                  · subst e; exact hyx
                  · exact Hle.out i hi (by omega))
                have hc2 : (qs[m]).1 < X.1 ∨ (¬ (qs[m]).1 < X.1 ∧ ((qs[m]).1 == X.1) = true ∧ (qs[m]).2 ≤ X.2) := by
                  unfold leP at hyx
                  by_cases h : (qs[m]).1 < X.1
                  · exact .inl h
                  · refine .inr ⟨h, ?_, ?_⟩
                    · simp; omega
                    · omega
                have g5 : (m : Int) < qs.length := by omega
                have g6 : (0 : Int) ≤ m := by omega
                clear hcl hyx hown
                generalize qs[m] = y at *
                rcases hc2 with h1 | ⟨h1, h2, h3⟩
                all_goals
                  go_wp2_with fail
                  go_quiet (fail)
                  go_wp2_with fail
                  go_roundw
                  case rel => exact ⟨m + 1, by omega, by go_num, Hstep.out, Hgm.out.tr (by (repeat (first | exact Gr.rfl' | refine Gr.al ?_ _ | refine Gr.dr ?_ | refine Gr.drN ?_ | refine Gr.sc ?_ (by simp <;> omega) _ | refine Gr.tr ?_ (by assumption))))⟩
                  case measure => simp [intOf]; omega
--]]
              · have hat : insAt qs X = m := insAt_is hm Hle.out (fun h => by
                  rcases hend with ⟨_, h2⟩ | h2
                  · exact h2
                  · omega)
                have Hat := Lib.hid hat
                have hinl := ins_len qs X
                clear hat
                by_cases hq : qs = []
                · have hxx := Hnil.out
--[[
                  have hu := Hnil.out hq
                  injection hu with f1 f2 f3
                  subst f1; subst f3
                  subst hq
                  obtain rfl : m = 0 := by simpa using hm
                  have e0 : ins [] X = [X] := rfl
                  rw [e0] at Hst
                  have hgzw := Hgm0.out.size
                  have hz1 := Hb1.out.size
                  simp only [List.length_nil] at *
                  clear hown hend
                  go_wp2_with fail
                  go_quiet (fail)
                  go_wp2_with (first
                    | (at_builtin; refine wpList_append_own_none rfl _ _ 44 rfl w.heap.size 47 j0 2 Try.underlying44 hj (.slice none 0 0) 0 [] rfl (World.ownsRow_nil _ _ _ _) rfl ?_)
                    | (at_builtin; refine wpList_append_own _ rfl _ _ 44 rfl w.heap.size 47 j0 _ 2 16 Try.underlying44 hj hy0 hy1 hy2 rfl (by decide) _ 0 [] rfl (World.ownsRow_nil _ _ _ _) ⟨wr.heap.size, 0, none⟩ 1 1 [.int .u64 X.1, .int .i64 X.2] rfl rfl (World.news_of_block (heap_alloc_new (wr.drewN nq) _)) (by intro u hu; simp only [List.mem_cons, List.not_mem_nil, or_false] at hu; rcases hu with rfl | rfl <;> rfl) (by unfold maxLen; omega) (by omega) (by simp; omega) ?_; intro v3 w3 hown3 hgrow3 _)
                    | (at_builtin; refine wpList_append_own_none rfl _ _ 44 rfl w.heap.size 47 j0 2 Try.underlying44 hj v3 1 _ rfl hown3 rfl ?_))
                  go_roundw
                  case rel => exact ⟨k + 1, [X], by omega, by go_num, Hst.out, (fun h => by cases h), own_cast hown3 (by simp) (by simp [encP]), gr_gb (Gr.al (Gr.drN Hgm0.out) _) hgrow3 (fun j hj => by cases hj)⟩
                  case measure => simp [intOf]; omega
--]]
                · have hq0 : 0 < qs.length := List.length_pos_iff.2 hq
                  have hgzw := Hgm0.out.size
                  have hz1 := Hb1.out.size
                  have hgzw0 : w.heap.size ≤ wr.heap.size := Nat.le_trans hz1 hgzw
                  obtain ⟨g, gc, hvg, hgb, hgl⟩ := own_at hown hq0
                  injection hvg with f1 f2 f3
                  subst f1; subst f3
                  have hcl := hown.cells (g := g) rfl
                  have hgc : qs.length ≤ qc := by obtain ⟨_, a', c', e, h, _⟩ := rdRow_of_own hown; cases e; exact h
                  have Hcl := Lib.hid hcl
                  have hel : (encPs qs).length = qs.length * 2 := flat2_len qs
                  have Ht := Lib.hid (show ∀ j u, (encPs (qs.take m))[j]? = some u → wr.cell? ((⟨g, 0, none⟩ : Addr).add j) = some u from fun j u hu => hcl j u (by
                    have := encPs_take qs m; rw [this, List.getElem?_take] at hu; split at hu
                    · exact hu
                    · cases hu))
                  have Hd := Lib.hid (show ∀ j u, (encPs (qs.drop m))[j]? = some u → wr.cell? ((⟨g, m * 2, none⟩ : Addr).add j) = some u from fun j u hu => by
                    have := encPs_drop qs m; rw [this, List.getElem?_drop] at hu
                    have h9 := hcl _ _ hu
                    rw [Addr.add_mid] at h9 ⊢
                    rwa [Nat.zero_add] at h9)
                  have hlt1 : (encPs (qs.take m)).length = m * 2 := by rw [flat2_len, List.length_take]; omega
                  have hlt2 : (encPs (qs.drop m)).length = (qs.length - m) * 2 := by rw [flat2_len, List.length_drop]
                  have Hfin := Lib.hid (show encPs (ins qs X) = encPs (qs.take m) ++ [.int .u64 X.1, .int .i64 X.2] ++ encPs (qs.drop m) by
                    unfold ins; rw [Hat.out]; simp [encP])
                  have hend2 : (∃ y : Pt, (m : Int) < qs.length ∧ m < qs.length ∧ wr.cell? ⟨g, m * 2, none⟩ = some (.int .u64 y.1) ∧ wr.cell? ⟨g, m * 2 + 1, none⟩ = some (.int .i64 y.2) ∧ ¬ y.1 < X.1 ∧ (y.1 == X.1) = false) ∨ (∃ y : Pt, (m : Int) < qs.length ∧ m < qs.length ∧ wr.cell? ⟨g, m * 2, none⟩ = some (.int .u64 y.1) ∧ wr.cell? ⟨g, m * 2 + 1, none⟩ = some (.int .i64 y.2) ∧ ¬ y.1 < X.1 ∧ (y.1 == X.1) = true ∧ ¬ y.2 ≤ X.2) ∨ (m = qs.length ∧ m < qc) ∨ (m = qs.length ∧ qc = m) := by
                    rcases hend with ⟨h, h2⟩ | h2
                    · have q0 := hcl _ _ (encPs_get qs m h).1
                      have q1 := hcl _ _ (encPs_get qs m h).2
                      rw [Addr.add_mid, Nat.zero_add] at q0 q1
                      unfold leP at h2
                      by_cases e : (qs[m]).1 = X.1
                      · exact .inr (.inl ⟨qs[m], by omega, h, q0, q1, by omega, by simp [e], by omega⟩)
                      · exact .inl ⟨qs[m], by omega, h, q0, q1, by omega, by simp [e]⟩
                    · rcases Nat.lt_or_ge m qc with h3 | h3
                      · exact .inr (.inr (.inl ⟨h2, h3⟩))
                      · exact .inr (.inr (.inr ⟨h2, by omega⟩))
                  clear hend hown hcl hq hel
                  have G6 := Lib.hid (show (0 : Int) ≤ m by omega)
                  have G7 := Lib.hid (show (m : Int) ≤ qs.length by omega)
                  have G8 := Lib.hid (show (m : Int) ≤ qc by omega)
                  have G9 := Lib.hid (show (qs.length : Int) ≤ qc by omega)
                  have Hlt1 := Lib.hid hlt1; have Hlt2 := Lib.hid hlt2; have Hinl := Lib.hid hinl
                  have Hgzw := Lib.hid hgzw; have Hz1 := Lib.hid hz1; have Hgzw0 := Lib.hid hgzw0; have Hgc := Lib.hid hgc; have Hq0 := Lib.hid hq0
                  clear hlt1 hlt2 hinl hgzw hz1 hgzw0 hgc hq0
                  rcases hend2 with ⟨y, g5, g5n, q0, q1, h1, h2⟩ | ⟨y, g5, g5n, q0, q1, h1, h2, h3⟩ | ⟨hml, hmq⟩ | ⟨hml, hmq⟩
                  case' inl =>
                    have hmq : m < qc := by have := Hgc.out; omega
                    have hmq2 : (m : Int) < qc := by omega
                  case' inr.inl =>
                    have hmq : m < qc := by have := Hgc.out; omega
                    have hmq2 : (m : Int) < qc := by omega
                  case' inr.inr.inl =>
                    have g5 : ¬ ((m : Int) < qs.length) := by omega
                    have hmq2 : (m : Int) < qc := by omega
                    have Hml := Lib.hid hml
                    clear hml
                  case' inr.inr.inr =>
                    have g5 : ¬ ((m : Int) < qs.length) := by omega
                    have Hml := Lib.hid hml
                    have Hn2 := Lib.hid (show encPs (qs.drop m) = [] by rw [List.drop_eq_nil_of_le (by omega)]; rfl)
                    clear hml
                    have hmq3 : m = qc := hmq.symm
                    clear hmq
                    subst hmq3
                  all_goals
                    go_wp2_with fail
                    (try (have g5b : ¬ m < qs.length := by have := Hml.out; omega))
                    have hm0 : (0 : Int) ≤ m := G6.out
                    (try (have h1b : ¬ y.1 < X.1 := by omega))
                    (try (have h3b : ¬ y.2 ≤ X.2 := by omega))
                    go_quiet (fail)
                    have g6 := G6.out; have g7 := G7.out; have g8 := G8.out; have g9 := G9.out
                    have hlt1 := Hlt1.out; have hlt2 := Hlt2.out; have hinl := Hinl.out; have hgzw0 := Hgzw0.out
                    go_wp2_with (first
                      | (at_builtin; refine wpList_append_own _ rfl _ _ 44 rfl wr.heap.size 47 j0 _ 2 16 Try.underlying44 hj hy0 hy1 hy2 rfl (by decide) _ 0 [] rfl (World.ownsRow_nil _ _ _ _) ⟨g, 0, none⟩ _ _ (encPs (qs.take _)) rfl hlt1 Ht.out (by intro u hu; obtain ⟨x, _, hx⟩ := List.mem_flatMap.1 hu; simp only [encP, List.mem_cons, List.not_mem_nil, or_false] at hx; rcases hx with rfl | rfl <;> rfl) (by unfold maxLen; omega) (by omega) (by exact Nat.le_refl _) ?_; intro v3 w3 hown3 hgrow3 _; have hg3 : Gr wr w3 := gr_gb (Gr.drN Gr.rfl') hgrow3 (fun j hj => by cases hj); have r0 := keepc hg3 p0; have r1 := keepc hg3 p1)
                      | (at_builtin; refine wpList_append_own _ rfl _ _ 44 rfl wr.heap.size 47 j0 _ 2 16 Try.underlying44 hj hy0 hy1 hy2 rfl (by decide) _ _ _ rfl (hown3.alloc _) ⟨w3.heap.size, 0, none⟩ 1 1 [.int .u64 X.1, .int .i64 X.2] rfl rfl (World.news_of_block (heap_alloc_new w3 _)) (by intro u hu; simp only [List.mem_cons, List.not_mem_nil, or_false] at hu; rcases hu with rfl | rfl <;> rfl) (by unfold maxLen; omega) (by omega) (by have := hg3.size; simp; omega) ?_; intro v4 w4 hown4 hgrow4 _; have hg4 : Gr wr w4 := gr_gb (hg3.al _) hgrow4 (fun j hj => (hown3.lt j hj).1); have hd4 := fun j u h => keepc hg4 (Hd.out j u h))
                      | (at_builtin; refine wpList_append_own _ rfl _ _ 44 rfl wr.heap.size 47 j0 _ 2 16 Try.underlying44 hj hy0 hy1 hy2 rfl (by decide) _ _ _ rfl hown4 ⟨g, _, none⟩ _ _ (encPs (qs.drop _)) rfl hlt2 hd4 (by intro u hu; obtain ⟨x, _, hx⟩ := List.mem_flatMap.1 hu; simp only [encP, List.mem_cons, List.not_mem_nil, or_false] at hx; rcases hx with rfl | rfl <;> rfl) (by unfold maxLen; omega) (by omega) (by exact hg4.size) ?_; intro v5 w5 hown5 hgrow5 _)
                      | (at_builtin; refine wpList_append_own _ rfl _ _ 44 rfl wr.heap.size 47 j0 _ 2 16 Try.underlying44 hj hy0 hy1 hy2 rfl (by decide) _ _ _ rfl hown4 ⟨g, _, none⟩ _ _ (encPs (qs.drop _)) rfl (by rw [Hn2.out]; have h9 := Hml.out; show 0 = _; omega) (fun j u h => by rw [Hn2.out] at h; cases h) (by intro u hu; obtain ⟨x, _, hx⟩ := List.mem_flatMap.1 hu; simp only [encP, List.mem_cons, List.not_mem_nil, or_false] at hx; rcases hx with rfl | rfl <;> rfl) (by unfold maxLen; omega) (by omega) (by exact hg4.size) ?_; intro v5 w5 hown5 hgrow5 _)
                      | fail)
                    go_roundw
                    case rel => exact ⟨k + 1, ins qs X, by omega, by go_num, Hst.out, (fun h => by rw [h] at hinl; simp at hinl), own_cast (own_mono hown5 hgzw0) (by first | omega | (have := Hml.out; omega)) (by rw [Hfin.out]; simp), Hgm0.out.tr (gr_gb hg4 hgrow5 (fun j hj => (hown4.lt j hj).1))⟩
                    case measure => simp [intOf]; omega
        · have hk9 : k = 8 := by omega
          have Hn8 := Lib.hid (ptsOf_next (by rw [← hk9]; exact Hpt.out) hlt)
          have hk0 : ¬ ((k : Int) < 8) := by omega
          clear hk9
          go_wp2_with fail
          go_roundw
          case rel => exact ⟨j + 1, qs, by omega, by go_num, Hn8.out, Hnil.out, Hown.out, Hg.out⟩
          case measure => simp [intOf]; omega
    · obtain rfl : j = ns.length := by omega
      go_wp2_with fail
      go_ret
      exact ⟨_, qs, rfl, ptsOf_all Hpt.out, Hown.out, Hb1.out.tr Hg.out⟩
end Go.Proofs.Ytomhdkppgfcaaaa

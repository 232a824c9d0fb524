/- HintHands: the walk. -/
import Derived.Test.YtijgbfhjimlklaaHnO
import Derived.Deep.CutBlock
namespace Go.Proofs.Ytijgbfhjimlklaa
open Go.RowKit Go.Maps

theorem eq_pt (x y : Pt) (w : World) : (if x.s.toList = y.s.toList then
      if x.t = y.t then
        if x.v = y.v then
          if x.c = y.c then
            if x.st = y.st then
              if x.q = y.q then Result.ok (Next.value (Value.bool true)) w
              else Result.ok (Next.value (Value.bool false)) w
            else Result.ok (Next.value (Value.bool false)) w
          else Result.ok (Next.value (Value.bool false)) w
        else Result.ok (Next.value (Value.bool false)) w
      else Result.ok (Next.value (Value.bool false)) w
    else Result.ok (Next.value (Value.bool false)) w) = Result.ok (Next.value (.bool (decide (x = y)))) w := by
  have hs : x.s.toList = y.s.toList ↔ x.s = y.s := by rw [Lib.toList_data, Lib.toList_data]; exact ⟨fun h => sb_inj h, fun h => by rw [h]⟩
  obtain ⟨x1, x2, x3, x4, x5, x6⟩ := x
  obtain ⟨y1, y2, y3, y4, y5, y6⟩ := y
  simp only [hs, Pt.mk.injEq]
  repeat' split
  all_goals simp_all
theorem take_mem_succ {K : List Pt} {k : Nat} (h : k < K.length) (x : Pt) : decide (x ∈ K.take (k + 1)) = (decide (x ∈ K.take k) || decide (K[k] = x)) := by
  have e : x ∈ K.take (k + 1) ↔ x ∈ K.take k ∨ K[k] = x := by
    rw [List.take_succ_eq_append_getElem h, List.mem_append, List.mem_singleton]
    exact or_congr Iff.rfl eq_comm
  rw [decide_eq_decide.2 e, Bool.decide_or]
/-- What the first loop has made. -/
structure Ph (w0 w : World) (p b : Nat) (ns : List Int) (K : List Pt) (kv v9 : Value) (N0 : Nat) : Prop where
  one : OneH w0 w p b 600 (KL ns K)
  kp : Kept K
  row : w.ownsRow N0 31 6 kv K.length (encP K)
  all : rdRow w 1 v9 (nodesOf ns).length (encI (nodesOf ns))
  pb : p < N0 ∧ b < N0
  v9b : ∀ a n c, v9 = .slice (some a) n c → ¬ a.block = b ∧ a.block < N0
  nw : w0.heap.size ≤ N0
  n0 : N0 ≤ w.heap.size
theorem Ph.grow {w0 w w' : World} {p b N0 : Nat} {ns : List Int} {K : List Pt} {kv v9 : Value} (h : Ph w0 w p b ns K kv v9 N0) (hg : Gr w w') : Ph w0 w' p b ns K kv v9 N0 :=
  ⟨h.one.grow hg, h.kp, own_gr h.row hg, h.all.gr hg, h.pb, h.v9b, h.nw, Nat.le_trans h.n0 hg.size⟩
theorem rdRow.bt {w w' : World} {n : Nat} {v : Value} {size : Nat} {xs : List Value} (h : rdRow w size v n xs) {X : Nat → Prop} (hb : Bt X w w') (hv : ∀ a n c, v = .slice (some a) n c → 0 < n → ¬ X a.block) : rdRow w' size v n xs := by
  obtain ⟨h1, a, c, rfl, hc, h2⟩ := h
  refine ⟨h1, a, c, rfl, hc, fun hn => ?_⟩
  obtain ⟨b, o, rfl, h3⟩ := h2 hn
  exact ⟨b, o, rfl, fun j u hu => hb.cell (p := ⟨b, o + j, none⟩) (hv ⟨b, o, none⟩ _ _ rfl hn) (h3 j u hu)⟩
theorem Ph.add {w0 w w' : World} {p b N0 : Nat} {ns : List Int} {K : List Pt} {kv v9 : Value} (h : Ph w0 w p b ns K kv v9 N0) (hb : Bt (fun k => k = b) w w') : w'.ownsRow N0 31 6 kv K.length (encP K) ∧ rdRow w' 1 v9 (nodesOf ns).length (encI (nodesOf ns)) ∧ N0 ≤ w'.heap.size :=
  ⟨own_bt h.row hb (fun k hk z => by have := (h.row.lt k hk).1; have := h.pb.2; omega), h.all.bt hb (fun a n c e _ => (h.v9b a n c e).1), Nat.le_trans h.n0 hb.size⟩
/-- What the second part has. -/
structure P2 (w0 w : World) (p b : Nat) (ns : List Int) (K : List Pt) (kv v9 : Value) (N0 : Nat) (L : List Hk) : Prop where
  one : OneH w0 w p b 600 L
  row : w.ownsRow N0 31 6 kv K.length (encP K)
  all : rdRow w 1 v9 (nodesOf ns).length (encI (nodesOf ns))
  pb : b < N0
  v9b : ∀ a n c, v9 = .slice (some a) n c → ¬ a.block = b
theorem P2.grow {w0 w w' : World} {p b N0 : Nat} {ns : List Int} {K : List Pt} {kv v9 : Value} {L : List Hk} (h : P2 w0 w p b ns K kv v9 N0 L) (hg : Gr w w') : P2 w0 w' p b ns K kv v9 N0 L :=
  ⟨h.one.grow hg, own_gr h.row hg, h.all.gr hg, h.pb, h.v9b⟩
theorem P2.turn {w0 w w' : World} {p b N0 : Nat} {ns : List Int} {K : List Pt} {kv v9 : Value} {L L' : List Hk} (h : P2 w0 w p b ns K kv v9 N0 L) (ha : HAt w' p (some b) 600 L') (hb : Bt (fun k => some b = some k) w w') : P2 w0 w' p b ns K kv v9 N0 L' :=
  ⟨h.one.turn ha hb, own_bt h.row hb (fun k hk z => by injection z with z; have := (h.row.lt k hk).1; have := h.pb; omega), h.all.bt hb (fun a n c e _ z => by injection z with z; exact h.v9b a n c e z.symm), h.pb, h.v9b⟩
theorem P2.cell {w0 w : World} {p b N0 b9 o9 c9 : Nat} {ns : List Int} {K : List Pt} {kv : Value} {L : List Hk} (h : P2 w0 w p b ns K kv (.slice (some ⟨b9, o9, none⟩) (nodesOf ns).length c9) N0 L) {i : Nat} (hi : i < (nodesOf ns).length) : w.cell? ⟨b9, o9 + i, none⟩ = some (.int .i64 (nodesOf ns)[i]) := by
  obtain ⟨_, a, c, e, _, h2⟩ := h.all
  obtain ⟨b', o', ea, h3⟩ := h2 (by omega)
  have e1 := (Value.slice.inj e).1
  rw [ea] at e1
  injection e1 with e1
  injection e1 with e2 e3
  subst e2 e3
  exact h3 i _ (encI_get hi)
theorem Ph.two {w0 w : World} {p b N0 : Nat} {ns : List Int} {K : List Pt} {kv v9 : Value} (h : Ph w0 w p b ns K kv v9 N0) : P2 w0 w p b ns K kv v9 N0 (KL ns K) := ⟨h.one, h.row, h.all, h.pb.2, fun a n c e => (h.v9b a n c e).1⟩
set_option maxRecDepth 100000 in
set_option maxHeartbeats 16000000 in
theorem hands_law (v0 : Value) (ps : List Pt) (v1 : Value) (ns0 : List Int) (most : Int) (w : World) (h0 : rdRow w 6 v0 ps.length (encP ps)) (hpi : ∀ p ∈ ps, PtI p) (hpl : ps.length ≤ maxLen) (h1 : rdRow w 1 v1 ns0.length (encI ns0)) (hnl : ns0.length ≤ maxLen) :
    Calls Try.prog 3 #[v0, v1, .int .i64 most] w fun e w' => e = .returned (.bool true) ∧ Gr w w' := by
  obtain ⟨a0, c0, rfl⟩ : ∃ a c, v0 = .slice a ps.length c := by obtain ⟨_, a, c, e, _⟩ := h0; exact ⟨a, c, e⟩
  obtain ⟨a1, c1, rfl, hc1⟩ : ∃ a c, v1 = .slice a ns0.length c ∧ ns0.length ≤ c := by obtain ⟨_, a, c, e, hc, _⟩ := h1; exact ⟨a, c, e, hc⟩
  have H0 := Lib.hid h0; have HPI := Lib.hid hpi
  have h12 : (ns0.take 12).length ≤ 12 := by rw [List.length_take]; omega
  have Hn := Lib.hid (show rdRow w 1 (.slice a1 (ns0.take 12).length c1) (ns0.take 12).length (encI (ns0.take 12)) by
    have := rd_take h1 (m := (ns0.take 12).length) (by rw [List.length_take]; omega)
    rwa [show ns0.take (ns0.take 12).length = ns0.take 12 by rw [List.length_take]; exact List.take_eq_take_min.symm] at this)
  have Hcut := Lib.hid (show (ns0.length ≤ 12 → (ns0.take 12).length = ns0.length) ∧ (¬ ns0.length ≤ 12 → (ns0.take 12).length = 12) from ⟨fun h => by rw [List.length_take]; omega, fun h => by rw [List.length_take]; omega⟩)
  obtain ⟨ns, ens⟩ : ∃ ns, ns0.take 12 = ns := ⟨_, rfl⟩
  rw [ens] at h12 Hn Hcut
  unfold maxLen at hpl hnl
  clear h0 hpi h1 ens
  go_enter Try.func3, Try.ntmps3
  go_wp2_with fail
  refine (awake_calls _).mono ?_
  rintro e w1 ⟨rfl, hg1⟩
  have G1 := Lib.hid hg1
  clear hg1
  go_wp2_with fail
  refine (hnew_calls 600 _).mono ?_
  rintro e w2 ⟨p, b, rfl, ha, hp, hb, hg⟩
  rw [show mostH 600 = 600 by decide] at ha
  have hs1 := G1.out.size
  have H2 := Lib.hid (show OneH w w2 p b 600 (KL ns []) from ⟨ha, G1.out.tr hg, by omega, by omega⟩)
  have HP2 := Lib.hid (show p < w2.heap.size ∧ b < w2.heap.size from ⟨blk_lt ha.blk, ha.map.lt b rfl⟩)
  clear ha hp hb hg hs1 G1
  go_upto_if 30 with (fail)
  go_cut [1] (fun v wx => v = .slice a1 ns.length c1 ∧ w2 = wx)
  case first =>
    by_cases hl : ns0.length ≤ 12
    · have hl' : ¬ (12 : Int) < ns0.length := by omega
      have e1 := Hcut.out.1 hl
      go_wp2_with fail
      go_meet
      exact ⟨by rw [e1], rfl⟩
    · have hl' : (12 : Int) < ns0.length := by omega
      have e1 := Hcut.out.2 hl
      have hc12 : 12 ≤ c1 := by omega
      go_wp2_with fail
      go_meet
      exact ⟨by rw [e1], rfl⟩
  case rest =>
    obtain ⟨rfl, rfl⟩ := hcut
    clear hc1 Hcut hnl
    go_wp2_with fail
    refine (rnodes_calls _ ns _ (Hn.out.gr H2.out.gr) (by omega)).mono ?_
    rintro e w3 ⟨v9, rfl, ho9, hg3⟩
    obtain ⟨a9, c9, rfl⟩ := own_slice ho9
    obtain ⟨N0, eN⟩ : ∃ N, w3.heap.size = N := ⟨_, rfl⟩
    have HPh := Lib.hid (show Ph w w3 p b ns [] (.slice none 0 0) (.slice a9 (nodesOf ns).length c9) N0 from
      ⟨H2.out.grow hg3, .nil, World.ownsRow_nil _ _ _ _, rdRow_of_own ho9, by have := HP2.out; have := hg3.size; omega, fun a n c e => by
        have e1 := (Value.slice.inj e).1
        subst e1
        rcases ho9.2 with ⟨h2, _⟩ | ⟨g, cap, cur, h2, hb, hg, _⟩
        · cases h2
        · have := (Value.slice.inj h2).1
          injection this with this
          subst this
          have h3 := blk_lt hg
          have := HP2.out.2
          refine ⟨fun z => ?_, ?_⟩
          · have h4 : g = b := z
            omega
          · show g < N0
            omega, by rw [← eN]; exact (H2.out.gr.tr hg3).size, by omega⟩)
    have hal := nodesOf_len ns
    clear ho9 hg3 H2 HP2 eN
    go_upto_block 0 with (fail)
    go_cut [10] (fun kv wx => ∃ K : List Pt, K.length ≤ 30 ∧ Hid (Ph w wx p b ns K kv (.slice a9 (nodesOf ns).length c9) N0))
    case first =>
      go_wp2_with fail
      go_loopw [10, 11] (fun kv iv wr => ∃ (i : Nat) (K : List Pt), i ≤ ps.length ∧ i ≤ 30 ∧ iv = .int .i64 i ∧ K.length ≤ i ∧ Hid (Ph w wr p b ns K kv (.slice a9 (nodesOf ns).length c9) N0)) (fun _ iv _ => ps.length - (intOf iv).toNat)
      case atStart => exact ⟨0, [], Nat.zero_le _, Nat.zero_le _, rfl, Nat.le_refl _, HPh⟩
      case round =>
        obtain ⟨i, K, hi1, hi2, rfl, hKi, HR⟩ := hrel
        obtain ⟨ua, uc, rfl⟩ := own_slice HR.out.row
        by_cases hlt : i < ps.length ∧ i < 30
        · obtain ⟨hl1, hl2⟩ := hlt
          have hl1' : (i : Int) < ps.length := by omega
          have hl2' : (i : Int) < 30 := by omega
          obtain ⟨bg, og, _, e1, _, hrg⟩ := rd_range ptC 6 (fun _ => rfl) (H0.out.gr HR.out.one.gr) (by omega)
          replace e1 := (Value.slice.inj e1).1
          subst e1
          have Hrg := Lib.hid (hrg i hl1)
          have Hyi := Lib.hid (HPI.out _ (List.getElem_mem hl1))
          obtain ⟨y, ey⟩ : ∃ y, ps[i] = y := ⟨_, rfl⟩
          rw [ey] at Hrg Hyi
          clear hrg ey HPh
          go_wp2_with (first | (refine wpList_load_mid rfl 31 (.tmp 47) rfl bg (og + i * 6) rfl (ptC y) _ Hrg.out Try.underlying31 rfl info_pt ?_))
          refine (small_calls y _).mono ?_
          rintro e w4 ⟨rfl, hg4⟩
          have HR4 := Lib.hid (HR.out.grow hg4)
          have Hxw := Lib.hid (smallP_w Hyi.out)
          generalize smallP y = x at *
          clear hg4 HR Hrg Hyi
          go_wp2_with fail
          obtain ⟨w5, e5, hg5, b5, s5⟩ := al_out w4 (.cells #[.string x.s, .int .i64 x.t, .int .i64 x.v, .int .i64 x.c, .int .i64 x.st, .int .i64 x.q] 31)
          rw [e5]
          obtain ⟨A12, eA⟩ : ∃ A, w4.heap.size = A := ⟨_, rfl⟩
          rw [eA] at b5 ⊢
          have B12 := Lib.hid b5
          have HR5 := Lib.hid (HR4.out.grow hg5)
          have HA12 := Lib.hid (show ¬ A12 = b from fun z => by have := HR4.out.pb.2; have := HR4.out.n0; omega)
          clear e5 hg5 b5 s5 eA HR4
          obtain ⟨wo, rfl⟩ : ∃ wo : World, wo = wr := ⟨_, rfl⟩
          go_loopw [13, 14] (fun hv kv wr => ∃ k : Nat, k ≤ K.length ∧ kv = .int .i64 k ∧ hv = .bool (decide (x ∈ K.take k)) ∧ Hid (Gr w5 wr)) (fun _ kv _ => K.length - (intOf kv).toNat)
          case atStart => exact ⟨0, Nat.zero_le _, rfl, by simp, Lib.hid Gr.rfl'⟩
          case round =>
            obtain ⟨k, hk, rfl, rfl, HG5⟩ := hrel
            by_cases hlt : k < K.length
            · have hlt' : (k : Int) < K.length := by omega
              obtain ⟨bk, ok, _, e1, _, hrg⟩ := rd_range ptC 6 (fun _ => rfl) (rdRow_of_own (own_gr HR5.out.row HG5.out)) (by omega)
              replace e1 := (Value.slice.inj e1).1
              subst e1
              have hts := take_mem_succ hlt x
              obtain ⟨q, eq⟩ : ∃ q, K[k] = q := ⟨_, rfl⟩
              have hq := hrg k hlt
              rw [eq] at hq hts
              have Hq := Lib.hid hq
              have Hbr := Lib.hid (HG5.out.blk B12.out)
              obtain ⟨hd, ehd⟩ : ∃ hd, decide (x ∈ K.take k) = hd := ⟨_, rfl⟩
              rw [ehd] at hts ⊢
              have Hts := Lib.hid hts
              clear hrg hq eq hts ehd
              cases hd with
              | true =>
                as_aux_lemma =>
                go_wp2_with fail
                refine region_start (S := fun w' => Gr wr w') (by kernel_rfl) (by exact Gr.dr Gr.rfl') (fun wz hz0 hHeld => ?_)
                simp only [List.size_toArray, List.length_cons, List.length_nil, Nat.reduceAdd]
                refine wpAnyH_take (i := 0) (oi := ?_) (v := ?_) ?_ (by kernel_rfl) (by kernel_rfl) (by kernel_rfl) ?_ ?_ (by assumption) ?_; rotate_left 2; (focus (simp only [List.getElem?_toArray, List.getElem?_cons_zero]; rfl)); (focus (exact fun _ _ _ h => h)); first | (focus (refine Or.inl ⟨by rfl, ?_⟩; intro w hSw; (try dsimp only at hSw); (try dsimp only [Array.getD]); go_simp; (try with_reducible rfl))) | (focus (refine Or.inr ⟨by rfl, ?_⟩; rfl)) | fail "op 0"
                try simp only [Act.put, List.setIfInBounds_toArray, List.set_cons_zero, List.set_cons_succ]
                refine wpAnyH_take (i := 1) (oi := ?_) (v := ?_) ?_ (by kernel_rfl) (by kernel_rfl) (by kernel_rfl) ?_ ?_ (by assumption) ?_; rotate_left 2; (focus (simp only [List.getElem?_toArray, List.getElem?_cons_succ, List.getElem?_cons_zero]; rfl)); (focus (exact fun _ _ _ h => h)); first | (focus (refine Or.inl ⟨by rfl, ?_⟩; intro w hSw; (try dsimp only at hSw); (try dsimp only [Array.getD]); go_simp; (try with_reducible rfl))) | (focus (refine Or.inr ⟨by rfl, ?_⟩; rfl)) | fail "op 1"
                try simp only [Act.put, List.setIfInBounds_toArray, List.set_cons_zero, List.set_cons_succ]
                refine wpAnyH_take (i := 2) (oi := ?_) (v := ?_) ?_ (by kernel_rfl) (by kernel_rfl) (by kernel_rfl) ?_ ?_ (by assumption) ?_; rotate_left 2; (focus (simp only [List.getElem?_toArray, List.getElem?_cons_succ, List.getElem?_cons_zero]; rfl)); (focus (exact fun _ _ _ h => h)); first | (focus (refine Or.inl ⟨by rfl, ?_⟩; intro w hSw; (try dsimp only at hSw); (try dsimp only [Array.getD]); go_simp; (try with_reducible rfl))) | (focus (refine Or.inr ⟨by rfl, ?_⟩; rfl)) | fail "op 2"
                try simp only [Act.put, List.setIfInBounds_toArray, List.set_cons_zero, List.set_cons_succ]
                refine wpAnyH_take (i := 3) (oi := ?_) (v := ?_) ?_ (by kernel_rfl) (by kernel_rfl) (by kernel_rfl) ?_ ?_ (by assumption) ?_; rotate_left 2; (focus (simp only [List.getElem?_toArray, List.getElem?_cons_succ, List.getElem?_cons_zero]; rfl)); (focus (exact fun _ _ _ h => h)); first | (focus (refine Or.inl ⟨by rfl, ?_⟩; intro w hSw; (try dsimp only at hSw); (try dsimp only [Array.getD]); go_simp; (try with_reducible rfl))) | (focus (refine Or.inr ⟨by rfl, ?_⟩; rfl)) | fail "op 3"
                try simp only [Act.put, List.setIfInBounds_toArray, List.set_cons_zero, List.set_cons_succ]
                refine wpAnyH_take (i := 4) (oi := ?_) (v := ?_) ?_ (by kernel_rfl) (by kernel_rfl) (by kernel_rfl) ?_ ?_ (by assumption) ?_; rotate_left 2; (focus (simp only [List.getElem?_toArray, List.getElem?_cons_succ, List.getElem?_cons_zero]; rfl)); (focus (exact fun _ _ _ h => h)); first | (focus (refine Or.inl ⟨by rfl, ?_⟩; intro w hSw; (try dsimp only at hSw); (try dsimp only [Array.getD]); go_simp; (try with_reducible rfl))) | (focus (refine Or.inr ⟨by rfl, ?_⟩; rfl)) | fail "op 4"
                try simp only [Act.put, List.setIfInBounds_toArray, List.set_cons_zero, List.set_cons_succ]
                refine wpAnyH_take (i := 5) (oi := ?_) (v := ?_) ?_ (by kernel_rfl) (by kernel_rfl) (by kernel_rfl) ?_ ?_ (by assumption) ?_; rotate_left 2; (focus (simp only [List.getElem?_toArray, List.getElem?_cons_succ, List.getElem?_cons_zero]; rfl)); (focus (exact fun _ _ _ h => h)); first | (focus (refine Or.inl ⟨by rfl, ?_⟩; intro w hSw; (try dsimp only at hSw); refine (exec_load_mid 31 (.tmp 60) (by rfl) bk (ok + k * 6) (by rfl) (ptC q) _ (rangeAt_gr hSw Hq.out) Try.underlying31 rfl info_pt).trans ?_; with_reducible rfl)) | (focus (refine Or.inr ⟨by rfl, ?_⟩; rfl)) | fail "op 5"
                try simp only [Act.put, List.setIfInBounds_toArray, List.set_cons_zero, List.set_cons_succ]
                refine wpAnyH_take (i := 6) (oi := ?_) (v := ?_) ?_ (by kernel_rfl) (by kernel_rfl) (by kernel_rfl) ?_ ?_ (by assumption) ?_; rotate_left 2; (focus (simp only [List.getElem?_toArray, List.getElem?_cons_succ, List.getElem?_cons_zero]; rfl)); (focus (exact fun _ _ _ h => h)); first | (focus (refine Or.inl ⟨by rfl, ?_⟩; intro w hSw; (try dsimp only at hSw); refine (exec_load_row 31 (.tmp 12) (by rfl) A12 (by rfl) _ (ptC x).toArray (0, 0) _ (hSw.blk Hbr.out) Try.underlying31 rfl info_pt).trans ?_; with_reducible rfl)) | (focus (refine Or.inr ⟨by rfl, ?_⟩; rfl)) | fail "op 6"
                try simp only [Act.put, List.setIfInBounds_toArray, List.set_cons_zero, List.set_cons_succ]
                refine wpAnyH_take (i := 7) (oi := ?_) (v := ?_) ?_ (by kernel_rfl) (by kernel_rfl) (by kernel_rfl) ?_ ?_ (by assumption) ?_; rotate_left 2; (focus (simp only [List.getElem?_toArray, List.getElem?_cons_succ, List.getElem?_cons_zero]; rfl)); (focus (exact fun _ _ _ h => h)); first | (focus (refine Or.inl ⟨by rfl, ?_⟩; intro w hSw; (try dsimp only at hSw); (try dsimp only [Array.getD]); go_simp; refine (eq_pt q x _).trans ?_; with_reducible rfl)) | (focus (refine Or.inr ⟨by rfl, ?_⟩; rfl)) | fail "op 7"
                try simp only [Act.put, List.setIfInBounds_toArray, List.set_cons_zero, List.set_cons_succ]
                refine wpAnyH_take (i := 8) (oi := ?_) (v := ?_) ?_ (by kernel_rfl) (by kernel_rfl) (by kernel_rfl) ?_ ?_ (by assumption) ?_; rotate_left 2; (focus (simp only [List.getElem?_toArray, List.getElem?_cons_succ, List.getElem?_cons_zero]; rfl)); (focus (exact fun _ _ _ h => h)); first | (focus (refine Or.inl ⟨by rfl, ?_⟩; intro w hSw; (try dsimp only at hSw); (try dsimp only [Array.getD]); go_simp; (try with_reducible rfl))) | (focus (refine Or.inr ⟨by rfl, ?_⟩; rfl)) | fail "op 8"
                try simp only [Act.put, List.setIfInBounds_toArray, List.set_cons_zero, List.set_cons_succ]
                refine wpAnyH_take (i := 9) (oi := ?_) (v := ?_) ?_ (by kernel_rfl) (by kernel_rfl) (by kernel_rfl) ?_ ?_ (by assumption) ?_; rotate_left 2; (focus (simp only [List.getElem?_toArray, List.getElem?_cons_succ, List.getElem?_cons_zero]; rfl)); (focus (exact fun _ _ _ h => h)); first | (focus (refine Or.inl ⟨by rfl, ?_⟩; intro w hSw; (try dsimp only at hSw); (try dsimp only [Array.getD]); go_simp; (try with_reducible rfl))) | (focus (refine Or.inr ⟨by rfl, ?_⟩; rfl)) | fail "op 9"
                try simp only [Act.put, List.setIfInBounds_toArray, List.set_cons_zero, List.set_cons_succ]
                refine wpAnyH_done (by kernel_rfl) ?_ _
                have G6 := Lib.hid (HG5.out.tr hHeld)
                clear hHeld hz0
                go_wp2_with fail
                go_roundw
                case rel => exact ⟨k + 1, by omega, by go_num, by rw [Hts.out]; rfl, G6⟩
                case measure => simp [intOf]; omega
              | false =>
                as_aux_lemma =>
                go_wp2_with fail
                refine region_start (S := fun w' => Gr wr w') (by kernel_rfl) (by exact Gr.dr Gr.rfl') (fun wz hz0 hHeld => ?_)
                simp only [List.size_toArray, List.length_cons, List.length_nil, Nat.reduceAdd]
                refine wpAnyH_take (i := 0) (oi := ?_) (v := ?_) ?_ (by kernel_rfl) (by kernel_rfl) (by kernel_rfl) ?_ ?_ (by assumption) ?_; rotate_left 2; (focus (simp only [List.getElem?_toArray, List.getElem?_cons_zero]; rfl)); (focus (exact fun _ _ _ h => h)); first | (focus (refine Or.inl ⟨by rfl, ?_⟩; intro w hSw; (try dsimp only at hSw); (try dsimp only [Array.getD]); go_simp; (try with_reducible rfl))) | (focus (refine Or.inr ⟨by rfl, ?_⟩; rfl)) | fail "op 0"
                try simp only [Act.put, List.setIfInBounds_toArray, List.set_cons_zero, List.set_cons_succ]
                refine wpAnyH_take (i := 1) (oi := ?_) (v := ?_) ?_ (by kernel_rfl) (by kernel_rfl) (by kernel_rfl) ?_ ?_ (by assumption) ?_; rotate_left 2; (focus (simp only [List.getElem?_toArray, List.getElem?_cons_succ, List.getElem?_cons_zero]; rfl)); (focus (exact fun _ _ _ h => h)); first | (focus (refine Or.inl ⟨by rfl, ?_⟩; intro w hSw; (try dsimp only at hSw); (try dsimp only [Array.getD]); go_simp; (try with_reducible rfl))) | (focus (refine Or.inr ⟨by rfl, ?_⟩; rfl)) | fail "op 1"
                try simp only [Act.put, List.setIfInBounds_toArray, List.set_cons_zero, List.set_cons_succ]
                refine wpAnyH_take (i := 2) (oi := ?_) (v := ?_) ?_ (by kernel_rfl) (by kernel_rfl) (by kernel_rfl) ?_ ?_ (by assumption) ?_; rotate_left 2; (focus (simp only [List.getElem?_toArray, List.getElem?_cons_succ, List.getElem?_cons_zero]; rfl)); (focus (exact fun _ _ _ h => h)); first | (focus (refine Or.inl ⟨by rfl, ?_⟩; intro w hSw; (try dsimp only at hSw); (try dsimp only [Array.getD]); go_simp; (try with_reducible rfl))) | (focus (refine Or.inr ⟨by rfl, ?_⟩; rfl)) | fail "op 2"
                try simp only [Act.put, List.setIfInBounds_toArray, List.set_cons_zero, List.set_cons_succ]
                refine wpAnyH_take (i := 3) (oi := ?_) (v := ?_) ?_ (by kernel_rfl) (by kernel_rfl) (by kernel_rfl) ?_ ?_ (by assumption) ?_; rotate_left 2; (focus (simp only [List.getElem?_toArray, List.getElem?_cons_succ, List.getElem?_cons_zero]; rfl)); (focus (exact fun _ _ _ h => h)); first | (focus (refine Or.inl ⟨by rfl, ?_⟩; intro w hSw; (try dsimp only at hSw); (try dsimp only [Array.getD]); go_simp; (try with_reducible rfl))) | (focus (refine Or.inr ⟨by rfl, ?_⟩; rfl)) | fail "op 3"
                try simp only [Act.put, List.setIfInBounds_toArray, List.set_cons_zero, List.set_cons_succ]
                refine wpAnyH_take (i := 4) (oi := ?_) (v := ?_) ?_ (by kernel_rfl) (by kernel_rfl) (by kernel_rfl) ?_ ?_ (by assumption) ?_; rotate_left 2; (focus (simp only [List.getElem?_toArray, List.getElem?_cons_succ, List.getElem?_cons_zero]; rfl)); (focus (exact fun _ _ _ h => h)); first | (focus (refine Or.inl ⟨by rfl, ?_⟩; intro w hSw; (try dsimp only at hSw); (try dsimp only [Array.getD]); go_simp; (try with_reducible rfl))) | (focus (refine Or.inr ⟨by rfl, ?_⟩; rfl)) | fail "op 4"
                try simp only [Act.put, List.setIfInBounds_toArray, List.set_cons_zero, List.set_cons_succ]
                refine wpAnyH_take (i := 5) (oi := ?_) (v := ?_) ?_ (by kernel_rfl) (by kernel_rfl) (by kernel_rfl) ?_ ?_ (by assumption) ?_; rotate_left 2; (focus (simp only [List.getElem?_toArray, List.getElem?_cons_succ, List.getElem?_cons_zero]; rfl)); (focus (exact fun _ _ _ h => h)); first | (focus (refine Or.inl ⟨by rfl, ?_⟩; intro w hSw; (try dsimp only at hSw); refine (exec_load_mid 31 (.tmp 60) (by rfl) bk (ok + k * 6) (by rfl) (ptC q) _ (rangeAt_gr hSw Hq.out) Try.underlying31 rfl info_pt).trans ?_; with_reducible rfl)) | (focus (refine Or.inr ⟨by rfl, ?_⟩; rfl)) | fail "op 5"
                try simp only [Act.put, List.setIfInBounds_toArray, List.set_cons_zero, List.set_cons_succ]
                refine wpAnyH_take (i := 6) (oi := ?_) (v := ?_) ?_ (by kernel_rfl) (by kernel_rfl) (by kernel_rfl) ?_ ?_ (by assumption) ?_; rotate_left 2; (focus (simp only [List.getElem?_toArray, List.getElem?_cons_succ, List.getElem?_cons_zero]; rfl)); (focus (exact fun _ _ _ h => h)); first | (focus (refine Or.inl ⟨by rfl, ?_⟩; intro w hSw; (try dsimp only at hSw); refine (exec_load_row 31 (.tmp 12) (by rfl) A12 (by rfl) _ (ptC x).toArray (0, 0) _ (hSw.blk Hbr.out) Try.underlying31 rfl info_pt).trans ?_; with_reducible rfl)) | (focus (refine Or.inr ⟨by rfl, ?_⟩; rfl)) | fail "op 6"
                try simp only [Act.put, List.setIfInBounds_toArray, List.set_cons_zero, List.set_cons_succ]
                refine wpAnyH_take (i := 7) (oi := ?_) (v := ?_) ?_ (by kernel_rfl) (by kernel_rfl) (by kernel_rfl) ?_ ?_ (by assumption) ?_; rotate_left 2; (focus (simp only [List.getElem?_toArray, List.getElem?_cons_succ, List.getElem?_cons_zero]; rfl)); (focus (exact fun _ _ _ h => h)); first | (focus (refine Or.inl ⟨by rfl, ?_⟩; intro w hSw; (try dsimp only at hSw); (try dsimp only [Array.getD]); go_simp; refine (eq_pt q x _).trans ?_; with_reducible rfl)) | (focus (refine Or.inr ⟨by rfl, ?_⟩; rfl)) | fail "op 7"
                try simp only [Act.put, List.setIfInBounds_toArray, List.set_cons_zero, List.set_cons_succ]
                refine wpAnyH_take (i := 8) (oi := ?_) (v := ?_) ?_ (by kernel_rfl) (by kernel_rfl) (by kernel_rfl) ?_ ?_ (by assumption) ?_; rotate_left 2; (focus (simp only [List.getElem?_toArray, List.getElem?_cons_succ, List.getElem?_cons_zero]; rfl)); (focus (exact fun _ _ _ h => h)); first | (focus (refine Or.inl ⟨by rfl, ?_⟩; intro w hSw; (try dsimp only at hSw); (try dsimp only [Array.getD]); go_simp; (try with_reducible rfl))) | (focus (refine Or.inr ⟨by rfl, ?_⟩; rfl)) | fail "op 8"
                try simp only [Act.put, List.setIfInBounds_toArray, List.set_cons_zero, List.set_cons_succ]
                refine wpAnyH_take (i := 9) (oi := ?_) (v := ?_) ?_ (by kernel_rfl) (by kernel_rfl) (by kernel_rfl) ?_ ?_ (by assumption) ?_; rotate_left 2; (focus (simp only [List.getElem?_toArray, List.getElem?_cons_succ, List.getElem?_cons_zero]; rfl)); (focus (exact fun _ _ _ h => h)); first | (focus (refine Or.inl ⟨by rfl, ?_⟩; intro w hSw; (try dsimp only at hSw); (try dsimp only [Array.getD]); go_simp; (try with_reducible rfl))) | (focus (refine Or.inr ⟨by rfl, ?_⟩; rfl)) | fail "op 9"
                try simp only [Act.put, List.setIfInBounds_toArray, List.set_cons_zero, List.set_cons_succ]
                refine wpAnyH_done (by kernel_rfl) ?_ _
                have G6 := Lib.hid (HG5.out.tr hHeld)
                clear hHeld hz0
                go_wp2_with fail
                go_roundw
                case rel => exact ⟨k + 1, by omega, by go_num, by rw [Hts.out]; rfl, G6⟩
                case measure => simp [intOf]; omega
            · obtain rfl : k = K.length := by omega
              rw [List.take_length]
              have HR6 := Lib.hid (HR5.out.grow HG5.out)
              have HB6 := Lib.hid (HG5.out.blk B12.out)
              clear hlt HR5 B12 HG5
              obtain ⟨w6, rfl⟩ : ∃ w6 : World, w6 = wr := ⟨_, rfl⟩
              go_wp2_with (first | (refine wpList_load_rowg (by rfl) 31 (.tmp 12) rfl A12 rfl _ (ptC x).toArray (0, 0) _ HB6.out Try.underlying31 rfl info_pt ?_))
              have hkp := HR6.out.kp.add Hxw.out
              have HKp := Lib.hid hkp
              refine (HR6.out.one.addK (by omega) x Hxw.out.2.2.1 _ (Hn.out.gr HR6.out.one.gr) (by omega)).mono ?_
              rintro e w7 ⟨rfl, ho7, hb7⟩
              obtain ⟨r7, a7, n7⟩ := HR6.out.add hb7
              have B7 := Lib.hid ((hb7.block A12 (blk_lt HB6.out) HA12.out).trans HB6.out)
              have HO7 := Lib.hid ho7; have HR7 := Lib.hid r7; have HA7 := Lib.hid a7; have HN7 := Lib.hid n7
              have HPB := Lib.hid HR6.out.pb; have HV9 := Lib.hid HR6.out.v9b; have HNW := Lib.hid HR6.out.nw
              have HCh := Lib.hid (fun W => rcheckp_calls x W)
              have hKl := HR6.out.row.1
              have HadK := Lib.hid (show addK K x = if PtOk x ∧ x ∉ K then K ++ [x] else K from rfl)
              clear hkp ho7 r7 a7 n7 hb7 HR6 HB6 hKl
              by_cases hok : PtOk x
              · rw [decide_eq_true hok] at HCh ⊢
                unfold errOf at HCh
                by_cases hin : x ∈ K
                · rw [decide_eq_true hin]
                  have HEQ := Lib.hid (show addK K x = K by rw [HadK.out, if_neg (fun z => z.2 hin)])
                  clear hok hin HadK
                  go_wp2_with (first | (refine wpList_load_rowg (by rfl) 31 (.tmp 12) rfl A12 rfl _ (ptC x).toArray (0, 0) _ B7.out Try.underlying31 rfl info_pt ?_))
                  refine (HCh.out _).mono ?_
                  rintro e w8 ⟨rfl, hg8⟩
                  have HG8 := Lib.hid hg8
                  clear hg8
                  have HP8 := Lib.hid (show Ph w w8 p b ns K (.slice ua K.length uc) (.slice a9 (nodesOf ns).length c9) N0 from Ph.grow ⟨by have := HO7.out; rwa [HEQ.out] at this, by have := HKp.out; rwa [HEQ.out] at this, HR7.out, HA7.out, HPB.out, HV9.out, HNW.out, HN7.out⟩ HG8.out)
                  go_wp2_with fail
                  go_roundw
                  case rel => exact ⟨i + 1, K, by omega, by omega, by go_num, by omega, HP8⟩
                  case measure => simp [intOf]; omega
                · rw [decide_eq_false hin]
                  have HEQ := Lib.hid (show addK K x = K ++ [x] by rw [HadK.out, if_pos ⟨hok, hin⟩])
                  clear hok hin HadK
                  go_wp2_with (first | (refine wpList_load_rowg (by rfl) 31 (.tmp 12) rfl A12 rfl _ (ptC x).toArray (0, 0) _ B7.out Try.underlying31 rfl info_pt ?_))
                  refine (HCh.out _).mono ?_
                  rintro e w8 ⟨rfl, hg8⟩
                  have HG8 := Lib.hid hg8
                  clear hg8
                  have B8 := Lib.hid (HG8.out.blk B7.out)
                  go_wp2_with (first | (refine wpList_load_rowg (by rfl) 31 (.tmp 12) rfl A12 rfl _ (ptC x).toArray (0, 0) _ B8.out Try.underlying31 rfl info_pt ?_) | (at_builtin; refine Hid.out ?_))
                  apply Lib.hid
                  have hgw := HG8.out.tr (Gr.al (Gr.rfl' (w := w8)) (.cells (ptC x).toArray 31))
                  refine wpList_snoc ptC 6 56 (fun _ => rfl) (by decide) (by decide) ptC_one rfl (.tmp 79) (.tmp 81) 22 rfl N0 31 _ Try.underlying22 infoPt rfl (.slice ua K.length uc) K rfl (own_gr HR7.out hgw) x w8.heap.size rfl (heap_alloc_new w8 _) (by omega) (Nat.le_trans HN7.out hgw.size) (fun a10 c10 w10 ho10 hg10 hat10 => ?_)
                  have hown := fun j hj => (HR7.out.lt j hj).1
                  have hb10 : Bt (fun k => some k = (Value.slice ua K.length uc).ownBlock) w7 w10 := (Bt.of hgw).tr ⟨hg10.os, hg10.tape, hg10.output, hg10.size, fun j hj hne => hg10.block j hj (fun e => hne (e ▸ rfl))⟩
                  have HP10 := Lib.hid (show Ph w w10 p b ns (K ++ [x]) (.slice a10 (K.length + 1) c10) (.slice a9 (nodesOf ns).length c9) N0 from
                    ⟨⟨by have := HO7.out.at_; rw [HEQ.out] at this; exact this.bt hb10 (fun z => by have := hown p z.symm; have := HPB.out.1; omega) (fun j hj z => by injection hj with hj; have := hown j z.symm; have := HPB.out.2; omega), hb10.gr HO7.out.gr (fun j z => by have := hown j z.symm; have := HNW.out; omega), HO7.out.np, HO7.out.nb⟩,
                    by have := HKp.out; rwa [HEQ.out] at this, ho10, HA7.out.bt hb10 (fun a n c e _ z => by have := (HV9.out a n c e).2; have := hown a.block z.symm; omega), HPB.out, HV9.out, HNW.out, Nat.le_trans HN7.out hb10.size⟩)
                  clear ho10 hg10 hat10 hown hgw hb10
                  go_wp2_with fail
                  go_roundw
                  case rel => exact ⟨i + 1, K ++ [x], by omega, by omega, by go_num, by simp; omega, HP10⟩
                  case measure => simp [intOf]; omega
              · rw [decide_eq_false hok] at HCh ⊢
                unfold errOf at HCh
                have HEQ := Lib.hid (show addK K x = K by rw [HadK.out, if_neg (fun z => hok z.1)])
                generalize decide (x ∈ K) = dk at *
                clear hok HadK
                go_wp2_with (first | (refine wpList_load_rowg (by rfl) 31 (.tmp 12) rfl A12 rfl _ (ptC x).toArray (0, 0) _ B7.out Try.underlying31 rfl info_pt ?_))
                refine (HCh.out _).mono ?_
                rintro e w8 ⟨rfl, hg8⟩
                have HG8 := Lib.hid hg8
                clear hg8
                have HP8 := Lib.hid (show Ph w w8 p b ns K (.slice ua K.length uc) (.slice a9 (nodesOf ns).length c9) N0 from Ph.grow ⟨by have := HO7.out; rwa [HEQ.out] at this, by have := HKp.out; rwa [HEQ.out] at this, HR7.out, HA7.out, HPB.out, HV9.out, HNW.out, HN7.out⟩ HG8.out)
                go_wp2_with fail
                go_roundw
                case rel => exact ⟨i + 1, K, by omega, by omega, by go_num, by omega, HP8⟩
                case measure => simp [intOf]; omega
        · have hex : (¬ (i : Int) < ps.length) ∨ ((i : Int) < ps.length ∧ ¬ (i : Int) < 30) := by omega
          clear hlt HPh
          have hK30 : K.length ≤ 30 := by omega
          rcases hex with hex | ⟨hex, hex2⟩
          all_goals
            go_wp2_with fail
            go_meet
            exact ⟨K, hK30, HR⟩
    case rest =>
      obtain ⟨K, hK30, HR⟩ := hcut
      clear HPh
      obtain ⟨ua, uc, rfl⟩ := own_slice HR.out.row
      have hm1 : -9 ≤ most.tmod 10 ∧ most.tmod 10 ≤ 9 := by
        have h1 := Int.tmod_lt_of_pos most (b := 10) (by omega)
        have h2 := Int.lt_tmod_of_pos most (b := 10) (by omega)
        omega
      obtain ⟨q1, e1⟩ : ∃ q, most.tmod 10 = q := ⟨_, rfl⟩
      rw [e1] at hm1
      go_upto_if 86 with (fail)
      go_cut [16] (fun v wx => ∃ n : Nat, n ≤ 9 ∧ v = .int .i64 n ∧ wc = wx)
      case first =>
        by_cases hneg : q1 < 0
        · have hw : IntKind.i64.wrap (-q1) = -q1 := wrap_id (by unfold I64; omega)
          go_wp2_with fail
          all_goals (go_meet; exact ⟨(-q1).toNat, by omega, by congr 1; omega, rfl⟩)
        · go_wp2_with fail
          all_goals (go_meet; exact ⟨q1.toNat, by omega, by congr 1; omega, rfl⟩)
      case rest =>
        obtain ⟨n, hn9, rfl, rfl⟩ := hcut
        clear hm1 e1 q1 hpl
        have hwn : IntKind.i64.wrap ((n : Int) + 1) = (n : Int) + 1 := wrap_id (by unfold I64; omega)
        have HM := Lib.hid (show ((KL ns K).length : Int) = (K.length : Int) * ((nodesOf ns).length : Int) by rw [KL_len]; exact Int.natCast_mul _ _)
        have HP := Lib.hid HR.out.two
        have HKp := Lib.hid HR.out.kp
        have HS0 := Lib.hid (HdL.start (ns := ns) HR.out.kp)
        have hSl : (srtH K).length = K.length := srtH_len K
        have HSn := Lib.hid ((srtH_perm K).nodup_iff.2 HR.out.kp.nd)
        have HSs := Lib.hid (srtH_le K)
        have HSm := Lib.hid (fun x => (srtH_perm K).mem_iff (a := x))
        obtain ⟨S, eS⟩ : ∃ S, srtH K = S := ⟨_, rfl⟩
        rw [eS] at HS0 hSl HSn HSs HSm
        have HSl := Lib.hid hSl
        have HAn := Lib.hid (nodesOf_nodup ns)
        clear hSl eS HR
        go_wp2_with fail
        refine (hlen_calls _ p (some b) 600 _ HP.out.one.at_).mono ?_
        rintro e w4 ⟨rfl, hg4⟩
        rw [HM.out]
        have HP4 := Lib.hid (HP.out.grow hg4)
        have hk480 : (KL ns K).length ≤ 30 * 16 := by rw [KL_len]; exact Nat.mul_le_mul hK30 (nodesOf_len ns)
        have hwm : IntKind.i64.wrap ((K.length : Int) * ((nodesOf ns).length : Int)) = (K.length : Int) * ((nodesOf ns).length : Int) := wrap_id (by rw [← HM.out]; unfold I64; omega)
        clear hk480
        clear hg4 HP
        go_wp2_with fail
        clear hwm HM
        go_loopw [17] (fun iv wr => ∃ (i : Nat) (L : List Hk), i ≤ (nodesOf ns).length ∧ iv = .int .i64 i ∧ L.length ≤ 600 ∧ Hid (HdL (nodesOf ns) S i 0 L) ∧ Hid (P2 w wr p b ns K (.slice ua K.length uc) (.slice a9 (nodesOf ns).length c9) N0 L)) (fun iv _ => (nodesOf ns).length - (intOf iv).toNat)
        case atStart => exact ⟨0, _, Nat.zero_le _, rfl, (Nat.le_trans (show (KL ns K).length ≤ 30 * 16 by rw [KL_len]; exact Nat.mul_le_mul hK30 (nodesOf_len ns)) (by decide)), HS0, HP4⟩
        case round =>
          obtain ⟨i, L, hi, rfl, hL60, HD, HQ⟩ := hrel
          by_cases hlt : i < (nodesOf ns).length
          · have hlt' : (i : Int) < (nodesOf ns).length := by omega
            clear HP4 HS0
            obtain ⟨_, _, e0, _, hx⟩ := rd_at HQ.out.all
            obtain ⟨b9, o9, ea9, _⟩ := hx (by omega)
            have e09 := (Value.slice.inj e0).1
            rw [ea9] at e09
            subst e09
            clear ea9 hx e0
            have HaI := Lib.hid (show I64 (nodesOf ns)[i] by have := (nodesOf_mem.1 (List.getElem_mem hlt)).2; unfold I64; omega)
            have Hcell := Lib.hid (fun (W : World) (L : List Hk) (h : P2 w W p b ns K (.slice ua K.length uc) (.slice (some ⟨b9, o9, none⟩) (nodesOf ns).length c9) N0 L) => h.cell hlt)
            have Hfor := Lib.hid (fun (told : Nat) (L : List Hk) (h : HdL (nodesOf ns) S i told L) => h.for_ HAn.out HSn.out HSs.out hlt (n + 1))
            have Hack := Lib.hid (fun (told : Nat) (L : List Hk) (h : HdL (nodesOf ns) S i told L) => h.ack HAn.out HSn.out hlt (n + 1))
            have Hnext := Lib.hid (fun (L : List Hk) (h : HdL (nodesOf ns) S i S.length L) => h.next)
            obtain ⟨a, eaa⟩ : ∃ a, (nodesOf ns)[i] = a := ⟨_, rfl⟩
            rw [eaa] at HaI Hcell Hfor Hack
            clear eaa
            obtain ⟨wo, rfl⟩ : ∃ wo : World, wo = wr := ⟨_, rfl⟩
            go_upto_block 6 with (fail)
            go_cut [18] (fun tv wx => ∃ L' : List Hk, tv = .int .i64 K.length ∧ L'.length ≤ 600 ∧ Hid (HdL (nodesOf ns) S i S.length L') ∧ Hid (P2 w wx p b ns K (.slice ua K.length uc) (.slice (some ⟨b9, o9, none⟩) (nodesOf ns).length c9) N0 L'))
            case first =>
              go_wp2_with fail
              go_loopw [18, 19] (fun sv tv wr => ∃ (t told : Nat) (L : List Hk), t ≤ 40 ∧ tv = .int .i64 t ∧ sv = .int .i64 told ∧ told ≤ S.length ∧ (told = S.length ∨ t ≤ told) ∧ L.length ≤ 600 ∧ Hid (HdL (nodesOf ns) S i told L) ∧ Hid (P2 w wr p b ns K (.slice ua K.length uc) (.slice (some ⟨b9, o9, none⟩) (nodesOf ns).length c9) N0 L)) (fun _ tv _ => 40 - (intOf tv).toNat)
              case atStart => exact ⟨0, 0, L, by decide, rfl, rfl, Nat.zero_le _, .inr (Nat.le_refl _), hL60, HD, HQ⟩
              case round =>
                obtain ⟨t, told, L, ht, rfl, rfl, hts, htt, hL6, HD, HQ⟩ := hrel
                have HSlen := HSl.out
                by_cases ht40 : t < 40
                · have ht40' : (t : Int) < 40 := by omega
                  have c9r := Hcell.out _ L HQ.out
                  go_wp2_with fail
                  refine (for_calls _ p b 600 L HQ.out.one.at_ hL6 a ((n : Int) + 1)).mono ?_
                  rintro e w5 ⟨v5, rfl, hr5, hb5, hg5⟩
                  rw [show forL L a ((n : Int) + 1) = (S.drop told).take (n + 1) from Hfor.out told L HD.out] at hr5
                  have hack := Hack.out told L HD.out
                  have hlm : ((S.drop told).take (n + 1)).length ≤ n + 1 ∧ (told < S.length → 0 < ((S.drop told).take (n + 1)).length) ∧ told + ((S.drop told).take (n + 1)).length ≤ S.length := by rw [List.length_take, List.length_drop]; omega
                  have hlS : ∀ q ∈ (S.drop told).take (n + 1), q ∈ K := fun q hq => (HSm.out q).1 (List.mem_of_mem_drop (List.mem_of_mem_take hq))
                  obtain ⟨l, el⟩ : ∃ l, (S.drop told).take (n + 1) = l := ⟨_, rfl⟩
                  rw [el] at hr5 hack hlm hlS
                  obtain ⟨a5, c5, rfl⟩ : ∃ a c, v5 = .slice a l.length c := by obtain ⟨_, a, c, e, _⟩ := hr5; exact ⟨a, c, e⟩
                  have HQ5 := Lib.hid (HQ.out.grow hg5)
                  have Hr5 := Lib.hid hr5; have Hb5 := Lib.hid hb5; have Hack1 := Lib.hid hack; have HlS := Lib.hid hlS
                  obtain ⟨hl1, hl2, hl3⟩ := hlm
                  have Hl2 := Lib.hid hl2
                  have Hpw := Lib.hid (fun q (hq : q ∈ l) => (HKp.out.ok q (hlS q hq)).2)
                  clear hr5 hb5 hg5 hack hlS el hl2 c9r
                  obtain ⟨m, em⟩ : ∃ m, l.length = m := ⟨_, rfl⟩
                  have Em := Lib.hid em
                  rw [em] at hl1 hl3 Hl2 ⊢
                  clear em
                  by_cases hm0 : m = 0
                  · have Hdone := Lib.hid (show told = S.length from by
                      by_cases h : told < S.length
                      · have := Hl2.out h; omega
                      · omega)
                    subst hm0
                    go_wp2_with fail
                    go_meet
                    refine ⟨L, by have := Hdone.out; have := HSl.out; congr 1; omega, hL6, ?_, HQ5⟩
                    rw [← Hdone.out]; exact HD
                  · have hm1 : 1 ≤ m := by omega
                    have c95 := Hcell.out _ L HQ5.out
                    have hgt : ¬ ((n : Int) + 1 < (m : Int)) := by omega
                    go_wp2_with fail
                    refine (ack_calls _ p (some b) 600 L HQ5.out.one.at_ hL6 a HaI.out (.slice a5 m c5) l (by have := Hr5.out; rwa [Em.out] at this ⊢) (by rw [Em.out]; omega) Hpw.out (fun ad n' c' e z => by
                      injection z with z
                      have h1 := Hb5.out ad n' c' (by rw [Em.out]; exact e)
                      have h2 := HQ.out.one.at_.map.lt b rfl
                      omega)).mono ?_
                    rintro e w6 ⟨rfl, ha6, hb6⟩
                    rw [Hack1.out.2.1, Em.out]
                    have HQ6 := Lib.hid (HQ5.out.turn ha6 hb6)
                    have HD6 := Lib.hid Hack1.out.1
                    have Hag := Lib.hid Hack1.out.2.2
                    have Hr6 := Lib.hid (Hr5.out.bt hb6 (fun ad n' c' e _ z => by
                      injection z with z
                      have h1 := Hb5.out ad n' c' e
                      have h2 := HQ.out.one.at_.map.lt b rfl
                      omega))
                    have hL7 : (ackL L a l).length ≤ 600 := Nat.le_trans (ackL_le _ _ _) hL6
                    rw [Em.out] at HD6
                    generalize ackL L a l = L6 at *
                    have c96 := Hcell.out _ L6 HQ6.out
                    clear ha6 hb6 Hack1 HQ5 c95 Hr5
                    go_wp2_with fail
                    refine (ack_calls _ p (some b) 600 L6 HQ6.out.one.at_ hL7 a HaI.out (.slice a5 m c5) l (by have := Hr6.out; rwa [Em.out] at this ⊢) (by rw [Em.out]; omega) Hpw.out (fun ad n' c' e z => by
                      injection z with z
                      have h1 := Hb5.out ad n' c' (by rw [Em.out]; exact e)
                      have h2 := HQ.out.one.at_.map.lt b rfl
                      omega)).mono ?_
                    rintro e w7 ⟨rfl, ha7, hb7⟩
                    rw [Hag.out] at ha7 ⊢
                    rw [show ((L6.length : Int) - (L6.length : Int)) = 0 by omega]
                    have HQ7 := Lib.hid (HQ6.out.turn ha7 hb7)
                    have Hr7 := Lib.hid (Hr6.out.bt hb7 (fun ad n' c' e _ z => by
                      injection z with z
                      have h1 := Hb5.out ad n' c' e
                      have h2 := HQ.out.one.at_.map.lt b rfl
                      omega))
                    clear ha7 hb7 HQ6 c96 Hr6
                    go_wp2_with fail
                    obtain ⟨wp, rfl⟩ : ∃ wp : World, wp = wr := ⟨_, rfl⟩
                    go_loopw [21] (fun kv wr => ∃ k : Nat, k ≤ m ∧ kv = .int .i64 k ∧ Hid (Gr w7 wr)) (fun kv _ => m - (intOf kv).toNat)
                    case atStart => exact ⟨0, Nat.zero_le _, rfl, Lib.hid Gr.rfl'⟩
                    case round =>
                      obtain ⟨k, hk, rfl, HGk⟩ := hrel
                      by_cases hkm : k < m
                      · have hkm' : (k : Int) < m := by omega
                        have hkl : k < l.length := by rw [Em.out]; exact hkm
                        obtain ⟨bl, ol, _, e1, _, hrg⟩ := rd_range ptC 6 (fun _ => rfl) (Hr7.out.gr HGk.out) (by omega)
                        replace e1 := (Value.slice.inj e1).1
                        subst e1
                        have hq := hrg k hkl
                        have hqK := HlS.out _ (List.getElem_mem hkl)
                        obtain ⟨q, eq⟩ : ∃ q, l[k] = q := ⟨_, rfl⟩
                        rw [eq] at hq hqK
                        have Hq0 := Lib.hid hq; have HqK := Lib.hid hqK
                        clear hrg hq hqK eq hkl
                        obtain ⟨wk, rfl⟩ : ∃ wk : World, wk = wr := ⟨_, rfl⟩
                        go_wp2_with fail
                        go_loopw [22, 23] (fun fv jv wr => ∃ j : Nat, j ≤ K.length ∧ jv = .int .i64 j ∧ fv = .bool (decide (q ∈ K.take j)) ∧ Hid (Gr wk wr)) (fun _ jv _ => K.length - (intOf jv).toNat)
                        case atStart => exact ⟨0, Nat.zero_le _, rfl, by simp, Lib.hid Gr.rfl'⟩
                        case round =>
                          obtain ⟨j, hj, rfl, rfl, HG5⟩ := hrel
                          by_cases hjl : j < K.length
                          · have hjl' : (j : Int) < K.length := by omega
                            obtain ⟨bk, ok, _, e1, _, hrg⟩ := rd_range ptC 6 (fun _ => rfl) (rdRow_of_own (own_gr HQ7.out.row (HGk.out.tr HG5.out))) (by omega)
                            replace e1 := (Value.slice.inj e1).1
                            subst e1
                            have hts := take_mem_succ hjl q
                            obtain ⟨z, ez⟩ : ∃ z, K[j] = z := ⟨_, rfl⟩
                            have hz := hrg j hjl
                            rw [ez] at hz hts
                            have Hz := Lib.hid hz
                            have Hq := Lib.hid (rangeAt_gr HG5.out Hq0.out)
                            obtain ⟨hd, ehd⟩ : ∃ hd, decide (q ∈ K.take j) = hd := ⟨_, rfl⟩
                            rw [ehd] at hts ⊢
                            have Hts := Lib.hid hts
                            clear hrg hz ez hts ehd
                            cases hd with
                            | true =>
                              go_wp2_with fail
                              refine region_start (S := fun w' => Gr wr w') (by kernel_rfl) (by exact Gr.dr Gr.rfl') (fun wz hz0 hHeld => ?_)
                              simp only [List.size_toArray, List.length_cons, List.length_nil, Nat.reduceAdd]
                              refine wpAnyH_take (i := 0) (oi := ?_) (v := ?_) ?_ (by kernel_rfl) (by kernel_rfl) (by kernel_rfl) ?_ ?_ (by assumption) ?_; rotate_left 2; (focus (simp only [List.getElem?_toArray, List.getElem?_cons_zero]; rfl)); (focus (exact fun _ _ _ h => h)); first | (focus (refine Or.inl ⟨by rfl, ?_⟩; intro w hSw; (try dsimp only at hSw); (try dsimp only [Array.getD]); go_simp; (try with_reducible rfl))) | (focus (refine Or.inr ⟨by rfl, ?_⟩; rfl)) | fail "op 0"
                              try simp only [Act.put, List.setIfInBounds_toArray, List.set_cons_zero, List.set_cons_succ]
                              refine wpAnyH_take (i := 1) (oi := ?_) (v := ?_) ?_ (by kernel_rfl) (by kernel_rfl) (by kernel_rfl) ?_ ?_ (by assumption) ?_; rotate_left 2; (focus (simp only [List.getElem?_toArray, List.getElem?_cons_succ, List.getElem?_cons_zero]; rfl)); (focus (exact fun _ _ _ h => h)); first | (focus (refine Or.inl ⟨by rfl, ?_⟩; intro w hSw; (try dsimp only at hSw); (try dsimp only [Array.getD]); go_simp; (try with_reducible rfl))) | (focus (refine Or.inr ⟨by rfl, ?_⟩; rfl)) | fail "op 1"
                              try simp only [Act.put, List.setIfInBounds_toArray, List.set_cons_zero, List.set_cons_succ]
                              refine wpAnyH_take (i := 2) (oi := ?_) (v := ?_) ?_ (by kernel_rfl) (by kernel_rfl) (by kernel_rfl) ?_ ?_ (by assumption) ?_; rotate_left 2; (focus (simp only [List.getElem?_toArray, List.getElem?_cons_succ, List.getElem?_cons_zero]; rfl)); (focus (exact fun _ _ _ h => h)); first | (focus (refine Or.inl ⟨by rfl, ?_⟩; intro w hSw; (try dsimp only at hSw); (try dsimp only [Array.getD]); go_simp; (try with_reducible rfl))) | (focus (refine Or.inr ⟨by rfl, ?_⟩; rfl)) | fail "op 2"
                              try simp only [Act.put, List.setIfInBounds_toArray, List.set_cons_zero, List.set_cons_succ]
                              refine wpAnyH_take (i := 3) (oi := ?_) (v := ?_) ?_ (by kernel_rfl) (by kernel_rfl) (by kernel_rfl) ?_ ?_ (by assumption) ?_; rotate_left 2; (focus (simp only [List.getElem?_toArray, List.getElem?_cons_succ, List.getElem?_cons_zero]; rfl)); (focus (exact fun _ _ _ h => h)); first | (focus (refine Or.inl ⟨by rfl, ?_⟩; intro w hSw; (try dsimp only at hSw); (try dsimp only [Array.getD]); go_simp; (try with_reducible rfl))) | (focus (refine Or.inr ⟨by rfl, ?_⟩; rfl)) | fail "op 3"
                              try simp only [Act.put, List.setIfInBounds_toArray, List.set_cons_zero, List.set_cons_succ]
                              refine wpAnyH_take (i := 4) (oi := ?_) (v := ?_) ?_ (by kernel_rfl) (by kernel_rfl) (by kernel_rfl) ?_ ?_ (by assumption) ?_; rotate_left 2; (focus (simp only [List.getElem?_toArray, List.getElem?_cons_succ, List.getElem?_cons_zero]; rfl)); (focus (exact fun _ _ _ h => h)); first | (focus (refine Or.inl ⟨by rfl, ?_⟩; intro w hSw; (try dsimp only at hSw); (try dsimp only [Array.getD]); go_simp; (try with_reducible rfl))) | (focus (refine Or.inr ⟨by rfl, ?_⟩; rfl)) | fail "op 4"
                              try simp only [Act.put, List.setIfInBounds_toArray, List.set_cons_zero, List.set_cons_succ]
                              refine wpAnyH_take (i := 5) (oi := ?_) (v := ?_) ?_ (by kernel_rfl) (by kernel_rfl) (by kernel_rfl) ?_ ?_ (by assumption) ?_; rotate_left 2; (focus (simp only [List.getElem?_toArray, List.getElem?_cons_succ, List.getElem?_cons_zero]; rfl)); (focus (exact fun _ _ _ h => h)); first | (focus (refine Or.inl ⟨by rfl, ?_⟩; intro w hSw; (try dsimp only at hSw); refine (exec_load_mid 31 (.tmp 161) (by rfl) bk (ok + j * 6) (by rfl) (ptC z) _ (rangeAt_gr hSw Hz.out) Try.underlying31 rfl info_pt).trans ?_; with_reducible rfl)) | (focus (refine Or.inr ⟨by rfl, ?_⟩; rfl)) | fail "op 5"
                              try simp only [Act.put, List.setIfInBounds_toArray, List.set_cons_zero, List.set_cons_succ]
                              refine wpAnyH_take (i := 6) (oi := ?_) (v := ?_) ?_ (by kernel_rfl) (by kernel_rfl) (by kernel_rfl) ?_ ?_ (by assumption) ?_; rotate_left 2; (focus (simp only [List.getElem?_toArray, List.getElem?_cons_succ, List.getElem?_cons_zero]; rfl)); (focus (exact fun _ _ _ h => h)); first | (focus (refine Or.inl ⟨by rfl, ?_⟩; intro w hSw; (try dsimp only at hSw); (try dsimp only [Array.getD]); go_simp; (try with_reducible rfl))) | (focus (refine Or.inr ⟨by rfl, ?_⟩; rfl)) | fail "op 6"
                              try simp only [Act.put, List.setIfInBounds_toArray, List.set_cons_zero, List.set_cons_succ]
                              refine wpAnyH_take (i := 7) (oi := ?_) (v := ?_) ?_ (by kernel_rfl) (by kernel_rfl) (by kernel_rfl) ?_ ?_ (by assumption) ?_; rotate_left 2; (focus (simp only [List.getElem?_toArray, List.getElem?_cons_succ, List.getElem?_cons_zero]; rfl)); (focus (exact fun _ _ _ h => h)); first | (focus (refine Or.inl ⟨by rfl, ?_⟩; intro w hSw; (try dsimp only at hSw); (try dsimp only [Array.getD]); go_simp; (try with_reducible rfl))) | (focus (refine Or.inr ⟨by rfl, ?_⟩; rfl)) | fail "op 7"
                              try simp only [Act.put, List.setIfInBounds_toArray, List.set_cons_zero, List.set_cons_succ]
                              refine wpAnyH_take (i := 8) (oi := ?_) (v := ?_) ?_ (by kernel_rfl) (by kernel_rfl) (by kernel_rfl) ?_ ?_ (by assumption) ?_; rotate_left 2; (focus (simp only [List.getElem?_toArray, List.getElem?_cons_succ, List.getElem?_cons_zero]; rfl)); (focus (exact fun _ _ _ h => h)); first | (focus (refine Or.inl ⟨by rfl, ?_⟩; intro w hSw; (try dsimp only at hSw); (try dsimp only [Array.getD]); go_simp; (try with_reducible rfl))) | (focus (refine Or.inr ⟨by rfl, ?_⟩; rfl)) | fail "op 8"
                              try simp only [Act.put, List.setIfInBounds_toArray, List.set_cons_zero, List.set_cons_succ]
                              refine wpAnyH_take (i := 9) (oi := ?_) (v := ?_) ?_ (by kernel_rfl) (by kernel_rfl) (by kernel_rfl) ?_ ?_ (by assumption) ?_; rotate_left 2; (focus (simp only [List.getElem?_toArray, List.getElem?_cons_succ, List.getElem?_cons_zero]; rfl)); (focus (exact fun _ _ _ h => h)); first | (focus (refine Or.inl ⟨by rfl, ?_⟩; intro w hSw; (try dsimp only at hSw); refine (exec_load_mid 31 (.tmp 165) (by rfl) bl (ol + k * 6) (by rfl) (ptC q) _ (rangeAt_gr hSw Hq.out) Try.underlying31 rfl info_pt).trans ?_; with_reducible rfl)) | (focus (refine Or.inr ⟨by rfl, ?_⟩; rfl)) | fail "op 9"
                              try simp only [Act.put, List.setIfInBounds_toArray, List.set_cons_zero, List.set_cons_succ]
                              refine wpAnyH_take (i := 10) (oi := ?_) (v := ?_) ?_ (by kernel_rfl) (by kernel_rfl) (by kernel_rfl) ?_ ?_ (by assumption) ?_; rotate_left 2; (focus (simp only [List.getElem?_toArray, List.getElem?_cons_succ, List.getElem?_cons_zero]; rfl)); (focus (exact fun _ _ _ h => h)); first | (focus (refine Or.inl ⟨by rfl, ?_⟩; intro w hSw; (try dsimp only at hSw); (try dsimp only [Array.getD]); go_simp; refine (eq_pt z q _).trans ?_; with_reducible rfl)) | (focus (refine Or.inr ⟨by rfl, ?_⟩; rfl)) | fail "op 10"
                              try simp only [Act.put, List.setIfInBounds_toArray, List.set_cons_zero, List.set_cons_succ]
                              refine wpAnyH_take (i := 11) (oi := ?_) (v := ?_) ?_ (by kernel_rfl) (by kernel_rfl) (by kernel_rfl) ?_ ?_ (by assumption) ?_; rotate_left 2; (focus (simp only [List.getElem?_toArray, List.getElem?_cons_succ, List.getElem?_cons_zero]; rfl)); (focus (exact fun _ _ _ h => h)); first | (focus (refine Or.inl ⟨by rfl, ?_⟩; intro w hSw; (try dsimp only at hSw); (try dsimp only [Array.getD]); go_simp; (try with_reducible rfl))) | (focus (refine Or.inr ⟨by rfl, ?_⟩; rfl)) | fail "op 11"
                              try simp only [Act.put, List.setIfInBounds_toArray, List.set_cons_zero, List.set_cons_succ]
                              refine wpAnyH_take (i := 12) (oi := ?_) (v := ?_) ?_ (by kernel_rfl) (by kernel_rfl) (by kernel_rfl) ?_ ?_ (by assumption) ?_; rotate_left 2; (focus (simp only [List.getElem?_toArray, List.getElem?_cons_succ, List.getElem?_cons_zero]; rfl)); (focus (exact fun _ _ _ h => h)); first | (focus (refine Or.inl ⟨by rfl, ?_⟩; intro w hSw; (try dsimp only at hSw); (try dsimp only [Array.getD]); go_simp; (try with_reducible rfl))) | (focus (refine Or.inr ⟨by rfl, ?_⟩; rfl)) | fail "op 12"
                              try simp only [Act.put, List.setIfInBounds_toArray, List.set_cons_zero, List.set_cons_succ]
                              refine wpAnyH_done (by kernel_rfl) ?_ _
                              have G6 := Lib.hid (HG5.out.tr hHeld)
                              clear hHeld hz0
                              go_wp2_with fail
                              go_roundw
                              case rel => exact ⟨j + 1, by omega, by go_num, by rw [Hts.out]; rfl, G6⟩
                              case measure => simp [intOf]; omega
                            | false =>
                              go_wp2_with fail
                              refine region_start (S := fun w' => Gr wr w') (by kernel_rfl) (by exact Gr.dr Gr.rfl') (fun wz hz0 hHeld => ?_)
                              simp only [List.size_toArray, List.length_cons, List.length_nil, Nat.reduceAdd]
                              refine wpAnyH_take (i := 0) (oi := ?_) (v := ?_) ?_ (by kernel_rfl) (by kernel_rfl) (by kernel_rfl) ?_ ?_ (by assumption) ?_; rotate_left 2; (focus (simp only [List.getElem?_toArray, List.getElem?_cons_zero]; rfl)); (focus (exact fun _ _ _ h => h)); first | (focus (refine Or.inl ⟨by rfl, ?_⟩; intro w hSw; (try dsimp only at hSw); (try dsimp only [Array.getD]); go_simp; (try with_reducible rfl))) | (focus (refine Or.inr ⟨by rfl, ?_⟩; rfl)) | fail "op 0"
                              try simp only [Act.put, List.setIfInBounds_toArray, List.set_cons_zero, List.set_cons_succ]
                              refine wpAnyH_take (i := 1) (oi := ?_) (v := ?_) ?_ (by kernel_rfl) (by kernel_rfl) (by kernel_rfl) ?_ ?_ (by assumption) ?_; rotate_left 2; (focus (simp only [List.getElem?_toArray, List.getElem?_cons_succ, List.getElem?_cons_zero]; rfl)); (focus (exact fun _ _ _ h => h)); first | (focus (refine Or.inl ⟨by rfl, ?_⟩; intro w hSw; (try dsimp only at hSw); (try dsimp only [Array.getD]); go_simp; (try with_reducible rfl))) | (focus (refine Or.inr ⟨by rfl, ?_⟩; rfl)) | fail "op 1"
                              try simp only [Act.put, List.setIfInBounds_toArray, List.set_cons_zero, List.set_cons_succ]
                              refine wpAnyH_take (i := 2) (oi := ?_) (v := ?_) ?_ (by kernel_rfl) (by kernel_rfl) (by kernel_rfl) ?_ ?_ (by assumption) ?_; rotate_left 2; (focus (simp only [List.getElem?_toArray, List.getElem?_cons_succ, List.getElem?_cons_zero]; rfl)); (focus (exact fun _ _ _ h => h)); first | (focus (refine Or.inl ⟨by rfl, ?_⟩; intro w hSw; (try dsimp only at hSw); (try dsimp only [Array.getD]); go_simp; (try with_reducible rfl))) | (focus (refine Or.inr ⟨by rfl, ?_⟩; rfl)) | fail "op 2"
                              try simp only [Act.put, List.setIfInBounds_toArray, List.set_cons_zero, List.set_cons_succ]
                              refine wpAnyH_take (i := 3) (oi := ?_) (v := ?_) ?_ (by kernel_rfl) (by kernel_rfl) (by kernel_rfl) ?_ ?_ (by assumption) ?_; rotate_left 2; (focus (simp only [List.getElem?_toArray, List.getElem?_cons_succ, List.getElem?_cons_zero]; rfl)); (focus (exact fun _ _ _ h => h)); first | (focus (refine Or.inl ⟨by rfl, ?_⟩; intro w hSw; (try dsimp only at hSw); (try dsimp only [Array.getD]); go_simp; (try with_reducible rfl))) | (focus (refine Or.inr ⟨by rfl, ?_⟩; rfl)) | fail "op 3"
                              try simp only [Act.put, List.setIfInBounds_toArray, List.set_cons_zero, List.set_cons_succ]
                              refine wpAnyH_take (i := 4) (oi := ?_) (v := ?_) ?_ (by kernel_rfl) (by kernel_rfl) (by kernel_rfl) ?_ ?_ (by assumption) ?_; rotate_left 2; (focus (simp only [List.getElem?_toArray, List.getElem?_cons_succ, List.getElem?_cons_zero]; rfl)); (focus (exact fun _ _ _ h => h)); first | (focus (refine Or.inl ⟨by rfl, ?_⟩; intro w hSw; (try dsimp only at hSw); (try dsimp only [Array.getD]); go_simp; (try with_reducible rfl))) | (focus (refine Or.inr ⟨by rfl, ?_⟩; rfl)) | fail "op 4"
                              try simp only [Act.put, List.setIfInBounds_toArray, List.set_cons_zero, List.set_cons_succ]
                              refine wpAnyH_take (i := 5) (oi := ?_) (v := ?_) ?_ (by kernel_rfl) (by kernel_rfl) (by kernel_rfl) ?_ ?_ (by assumption) ?_; rotate_left 2; (focus (simp only [List.getElem?_toArray, List.getElem?_cons_succ, List.getElem?_cons_zero]; rfl)); (focus (exact fun _ _ _ h => h)); first | (focus (refine Or.inl ⟨by rfl, ?_⟩; intro w hSw; (try dsimp only at hSw); refine (exec_load_mid 31 (.tmp 161) (by rfl) bk (ok + j * 6) (by rfl) (ptC z) _ (rangeAt_gr hSw Hz.out) Try.underlying31 rfl info_pt).trans ?_; with_reducible rfl)) | (focus (refine Or.inr ⟨by rfl, ?_⟩; rfl)) | fail "op 5"
                              try simp only [Act.put, List.setIfInBounds_toArray, List.set_cons_zero, List.set_cons_succ]
                              refine wpAnyH_take (i := 6) (oi := ?_) (v := ?_) ?_ (by kernel_rfl) (by kernel_rfl) (by kernel_rfl) ?_ ?_ (by assumption) ?_; rotate_left 2; (focus (simp only [List.getElem?_toArray, List.getElem?_cons_succ, List.getElem?_cons_zero]; rfl)); (focus (exact fun _ _ _ h => h)); first | (focus (refine Or.inl ⟨by rfl, ?_⟩; intro w hSw; (try dsimp only at hSw); (try dsimp only [Array.getD]); go_simp; (try with_reducible rfl))) | (focus (refine Or.inr ⟨by rfl, ?_⟩; rfl)) | fail "op 6"
                              try simp only [Act.put, List.setIfInBounds_toArray, List.set_cons_zero, List.set_cons_succ]
                              refine wpAnyH_take (i := 7) (oi := ?_) (v := ?_) ?_ (by kernel_rfl) (by kernel_rfl) (by kernel_rfl) ?_ ?_ (by assumption) ?_; rotate_left 2; (focus (simp only [List.getElem?_toArray, List.getElem?_cons_succ, List.getElem?_cons_zero]; rfl)); (focus (exact fun _ _ _ h => h)); first | (focus (refine Or.inl ⟨by rfl, ?_⟩; intro w hSw; (try dsimp only at hSw); (try dsimp only [Array.getD]); go_simp; (try with_reducible rfl))) | (focus (refine Or.inr ⟨by rfl, ?_⟩; rfl)) | fail "op 7"
                              try simp only [Act.put, List.setIfInBounds_toArray, List.set_cons_zero, List.set_cons_succ]
                              refine wpAnyH_take (i := 8) (oi := ?_) (v := ?_) ?_ (by kernel_rfl) (by kernel_rfl) (by kernel_rfl) ?_ ?_ (by assumption) ?_; rotate_left 2; (focus (simp only [List.getElem?_toArray, List.getElem?_cons_succ, List.getElem?_cons_zero]; rfl)); (focus (exact fun _ _ _ h => h)); first | (focus (refine Or.inl ⟨by rfl, ?_⟩; intro w hSw; (try dsimp only at hSw); (try dsimp only [Array.getD]); go_simp; (try with_reducible rfl))) | (focus (refine Or.inr ⟨by rfl, ?_⟩; rfl)) | fail "op 8"
                              try simp only [Act.put, List.setIfInBounds_toArray, List.set_cons_zero, List.set_cons_succ]
                              refine wpAnyH_take (i := 9) (oi := ?_) (v := ?_) ?_ (by kernel_rfl) (by kernel_rfl) (by kernel_rfl) ?_ ?_ (by assumption) ?_; rotate_left 2; (focus (simp only [List.getElem?_toArray, List.getElem?_cons_succ, List.getElem?_cons_zero]; rfl)); (focus (exact fun _ _ _ h => h)); first | (focus (refine Or.inl ⟨by rfl, ?_⟩; intro w hSw; (try dsimp only at hSw); refine (exec_load_mid 31 (.tmp 165) (by rfl) bl (ol + k * 6) (by rfl) (ptC q) _ (rangeAt_gr hSw Hq.out) Try.underlying31 rfl info_pt).trans ?_; with_reducible rfl)) | (focus (refine Or.inr ⟨by rfl, ?_⟩; rfl)) | fail "op 9"
                              try simp only [Act.put, List.setIfInBounds_toArray, List.set_cons_zero, List.set_cons_succ]
                              refine wpAnyH_take (i := 10) (oi := ?_) (v := ?_) ?_ (by kernel_rfl) (by kernel_rfl) (by kernel_rfl) ?_ ?_ (by assumption) ?_; rotate_left 2; (focus (simp only [List.getElem?_toArray, List.getElem?_cons_succ, List.getElem?_cons_zero]; rfl)); (focus (exact fun _ _ _ h => h)); first | (focus (refine Or.inl ⟨by rfl, ?_⟩; intro w hSw; (try dsimp only at hSw); (try dsimp only [Array.getD]); go_simp; refine (eq_pt z q _).trans ?_; with_reducible rfl)) | (focus (refine Or.inr ⟨by rfl, ?_⟩; rfl)) | fail "op 10"
                              try simp only [Act.put, List.setIfInBounds_toArray, List.set_cons_zero, List.set_cons_succ]
                              refine wpAnyH_take (i := 11) (oi := ?_) (v := ?_) ?_ (by kernel_rfl) (by kernel_rfl) (by kernel_rfl) ?_ ?_ (by assumption) ?_; rotate_left 2; (focus (simp only [List.getElem?_toArray, List.getElem?_cons_succ, List.getElem?_cons_zero]; rfl)); (focus (exact fun _ _ _ h => h)); first | (focus (refine Or.inl ⟨by rfl, ?_⟩; intro w hSw; (try dsimp only at hSw); (try dsimp only [Array.getD]); go_simp; (try with_reducible rfl))) | (focus (refine Or.inr ⟨by rfl, ?_⟩; rfl)) | fail "op 11"
                              try simp only [Act.put, List.setIfInBounds_toArray, List.set_cons_zero, List.set_cons_succ]
                              refine wpAnyH_take (i := 12) (oi := ?_) (v := ?_) ?_ (by kernel_rfl) (by kernel_rfl) (by kernel_rfl) ?_ ?_ (by assumption) ?_; rotate_left 2; (focus (simp only [List.getElem?_toArray, List.getElem?_cons_succ, List.getElem?_cons_zero]; rfl)); (focus (exact fun _ _ _ h => h)); first | (focus (refine Or.inl ⟨by rfl, ?_⟩; intro w hSw; (try dsimp only at hSw); (try dsimp only [Array.getD]); go_simp; (try with_reducible rfl))) | (focus (refine Or.inr ⟨by rfl, ?_⟩; rfl)) | fail "op 12"
                              try simp only [Act.put, List.setIfInBounds_toArray, List.set_cons_zero, List.set_cons_succ]
                              refine wpAnyH_done (by kernel_rfl) ?_ _
                              have G6 := Lib.hid (HG5.out.tr hHeld)
                              clear hHeld hz0
                              go_wp2_with fail
                              go_roundw
                              case rel => exact ⟨j + 1, by omega, by go_num, by rw [Hts.out]; rfl, G6⟩
                              case measure => simp [intOf]; omega
                          · obtain rfl : j = K.length := by omega
                            rw [List.take_length, decide_eq_true HqK.out]
                            have G6 := Lib.hid (HGk.out.tr HG5.out)
                            clear hjl
                            go_wp2_with fail
                            go_roundw
                            case rel => exact ⟨k + 1, by omega, by go_num, G6⟩
                            case measure => simp [intOf]; omega
                      · obtain rfl : k = m := by omega
                        have HQ8 := Lib.hid (HQ7.out.grow HGk.out)
                        have hwt : IntKind.i64.wrap ((told : Int) + (k : Int)) = (told : Int) + (k : Int) := wrap_id (by unfold I64; omega)
                        clear hkm
                        go_wp2_with fail
                        go_roundw
                        case rel => exact ⟨t + 1, told + k, L6, by omega, by go_num, by go_num, hl3, .inr (by omega), hL7, HD6, HQ8⟩
                        case measure => simp [intOf]; omega
                · have htd : told = S.length := by omega
                  have ht40' : ¬ (t : Int) < 40 := by omega
                  have Htd := Lib.hid htd
                  clear htd
                  go_wp2_with fail
                  go_meet
                  refine ⟨L, by have := Htd.out; have := HSl.out; congr 1; omega, hL6, ?_, HQ⟩
                  rw [← Htd.out]; exact HD
            case rest =>
              obtain ⟨L', rfl, hL7, HD', HQ'⟩ := hcut
              have HD2 := Lib.hid (Hnext.out L' HD'.out)
              go_wp2_with fail
              go_roundw
              case rel => exact ⟨i + 1, L', by omega, by go_num, hL7, HD2, HQ'⟩
              case measure => simp [intOf]; omega
          · obtain rfl : i = (nodesOf ns).length := by omega
            have hL := HD.out.done
            subst hL
            clear hlt HP4 HS0
            go_wp2_with fail
            refine (hlen_calls _ p (some b) 600 _ HQ.out.one.at_).mono ?_
            rintro e w5 ⟨rfl, hg5⟩
            have HQ5 := Lib.hid (HQ.out.grow hg5)
            clear hg5 HQ
            go_wp2_with fail
            refine (hnodes_calls _ p b 600 _ HQ5.out.one.at_ (by decide)).mono ?_
            rintro e w6 ⟨v6, rfl, hr6, hg6⟩
            rw [show (srt (([] : List Hk).map (·.2))).length = 0 by rw [show ([] : List Hk).map (·.2) = [] from rfl, srt_eq (m := []) List.Pairwise.nil (fun x => Iff.rfl)]; rfl] at hr6
            obtain ⟨a6, c6, rfl⟩ : ∃ a c, v6 = .slice a 0 c := by obtain ⟨_, a, c, e, _⟩ := hr6; exact ⟨a, c, e⟩
            have HQ6 := Lib.hid (HQ5.out.grow hg6)
            clear hr6 hg6 HQ5
            go_wp2_with fail
            go_ret
            exact ⟨rfl, HQ6.out.one.gr⟩
end Go.Proofs.Ytijgbfhjimlklaa

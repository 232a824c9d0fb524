/- Lists of points that are the same. -/
import Derived.Test.YtpnpnjfflblkpaaPtD
namespace Go.Proofs.Ytpnpnjfflblkpaa
open Go.RowKit Go.Sort

theorem info_pt : (Try.prog.info? 26).map (·.size) = some 6 := by kernel_rfl
theorem infoPt : (Try.prog.info? 26).map (fun i => (i.zero, i.size, i.bytes)) = some (some (.agg #[.string ⟨#[]⟩, .int .i64 0, .int .i64 0, .int .i64 0, .int .i64 0, .int .i64 0]), 6, 56) := by kernel_rfl
theorem encP_len (l : List Pt) : (encP l).length = l.length * 6 := by
  induction l with
  | nil => rfl
  | cons x r ih => rw [show encP (x :: r) = ptC x ++ encP r from rfl, List.length_append, ih, List.length_cons]; show 6 + r.length * 6 = (r.length + 1) * 6; omega
theorem ptC_inj {a b : Pt} (h : ptC a = ptC b) : a = b := by
  obtain ⟨a1, a2, a3, a4, a5, a6⟩ := a
  obtain ⟨b1, b2, b3, b4, b5, b6⟩ := b
  simpa using h
theorem take_succ_eq {l1 l2 : List Pt} {i : Nat} (h1 : i < l1.length) (h2 : i < l2.length) (h : l1.take i = l2.take i) : (l1.take (i + 1) = l2.take (i + 1)) ↔ l1[i] = l2[i] := by
  rw [List.take_succ_eq_append_getElem h1, List.take_succ_eq_append_getElem h2, h]
  constructor
  · intro e; have := List.append_cancel_left e; simpa using this
  · intro e; rw [e]
theorem take_ne {l1 l2 : List Pt} {i : Nat} (h1 : i < l1.length) (h2 : i < l2.length) (h : l1[i] ≠ l2[i]) : l1 ≠ l2 := fun e => h (by subst e; rfl)
theorem ne_pt (x y : Pt) (w : World) : (if x.s.toList = y.s.toList then
      if x.t = y.t then
        if x.v = y.v then
          if x.c = y.c then
            if x.st = y.st then
              if x.q = y.q then Result.ok (Next.value (Value.bool false)) w
              else Result.ok (Next.value (Value.bool true)) w
            else Result.ok (Next.value (Value.bool true)) w
          else Result.ok (Next.value (Value.bool true)) w
        else Result.ok (Next.value (Value.bool true)) w
      else Result.ok (Next.value (Value.bool true)) w
    else Result.ok (Next.value (Value.bool true)) w) = Result.ok (Next.value (.bool (decide (x ≠ y)))) w := by
  have hs : x.s.toList = y.s.toList ↔ x.s = y.s := by rw [Lib.toList_data, Lib.toList_data]; exact ⟨fun h => sb_inj h, fun h => by rw [h]⟩
  obtain ⟨x1, x2, x3, x4, x5, x6⟩ := x
  obtain ⟨y1, y2, y3, y4, y5, y6⟩ := y
  simp only [hs, ne_eq, Pt.mk.injEq]
  repeat' split
  all_goals simp_all
set_option maxRecDepth 100000 in
set_option maxHeartbeats 1000000 in
theorem samep_calls (v1 v2 : Value) (l1 l2 : List Pt) (w : World) (h1 : rdRow w 6 v1 l1.length (encP l1)) (h2 : rdRow w 6 v2 l2.length (encP l2)) (hk : l1.length ≤ 1000000) :
    Calls Try.prog 22 #[v1, v2] w fun e w' => e = .returned (.bool (decide (l1 = l2))) ∧ Gr w w' := by
  obtain ⟨a1, c1, rfl, hc1⟩ : ∃ a c, v1 = .slice a l1.length c ∧ l1.length ≤ c := by obtain ⟨_, a, c, e, h, _⟩ := h1; exact ⟨a, c, e, h⟩
  obtain ⟨a2, c2, rfl, hc2⟩ : ∃ a c, v2 = .slice a l2.length c ∧ l2.length ≤ c := by obtain ⟨_, a, c, e, h, _⟩ := h2; exact ⟨a, c, e, h⟩
  have H1 := Lib.hid h1; have H2 := Lib.hid h2
  clear h1 h2
  by_cases hlen : l1.length = l2.length
  · obtain ⟨r, hr⟩ : ∃ r, decide (l1 = l2) = r := ⟨_, rfl⟩
    have Hr := Lib.hid hr
    have Hl := Lib.hid hlen
    rw [hr]
    clear hr
    have hl2 : (l2.length : Int) = l1.length := by omega
    clear hlen
    go_enter Try.func22, Try.ntmps22
    go_wp2_with fail
    go_loopw [5] (fun iv wr => ∃ i : Nat, i ≤ l1.length ∧ iv = .int .i64 i ∧ Hid (l1.take i = l2.take i) ∧ Gr w wr) (fun iv _ => l1.length - (intOf iv).toNat)
    case atStart => exact ⟨0, Nat.zero_le _, rfl, Lib.hid rfl, Gr.rfl'⟩
    case round =>
      obtain ⟨i, hi, rfl, hT, hg⟩ := hrel
      by_cases hlt : i < l1.length
      · have hlt' : (i : Int) < l1.length := by omega
        have hltb : (i : Int) < l2.length := by omega
        have hlt2 : i < l2.length := by omega
        obtain ⟨b1, o1, _, e1, _, g1⟩ := rd_range ptC 6 (fun _ => rfl) (H1.out.gr hg) (by omega)
        obtain ⟨b2, o2, _, e2, _, g2⟩ := rd_range ptC 6 (fun _ => rfl) (H2.out.gr hg) (by omega)
        replace e1 := (Value.slice.inj e1).1
        replace e2 := (Value.slice.inj e2).1
        subst e1 e2
        have G1 := Lib.hid (g1 i hlt); have G2 := Lib.hid (g2 i hlt2)
        have hts := take_succ_eq hlt hlt2 hT.out
        have hne := take_ne hlt hlt2
        obtain ⟨x, hx⟩ : ∃ x, l1[i] = x := ⟨_, rfl⟩
        obtain ⟨y, hy⟩ : ∃ y, l2[i] = y := ⟨_, rfl⟩
        rw [hx] at G1; rw [hy] at G2; rw [hx, hy] at hts hne
        have Ht := Lib.hid hts; have Hn := Lib.hid hne
        clear g1 g2 hx hy hts hne
        go_wp2_with fail
        refine region_start (S := fun w' => Gr wr w') (by kernel_rfl) (by exact Gr.dr Gr.rfl') (fun wz hz0 hHeld => ?_)
        simp only [List.size_toArray, List.length_cons, List.length_nil, Nat.reduceAdd]
        refine wpAnyH_take (i := 0) (oi := ?_) (v := ?_) ?_ (by kernel_rfl) (by kernel_rfl) (by kernel_rfl) ?_ ?_ (by assumption) ?_; rotate_left 2; (focus (simp only [List.getElem?_toArray, List.getElem?_cons_zero]; rfl)); (focus (exact fun _ _ _ h => h)); first | (focus (refine Or.inl ⟨by rfl, ?_⟩; intro w hSw; (try dsimp only at hSw); (try dsimp only [Array.getD]); go_simp; (try with_reducible rfl))) | (focus (refine Or.inr ⟨by rfl, ?_⟩; rfl)) | fail "op 0"
        try simp only [Act.put, List.setIfInBounds_toArray, List.set_cons_zero, List.set_cons_succ]
        refine wpAnyH_take (i := 1) (oi := ?_) (v := ?_) ?_ (by kernel_rfl) (by kernel_rfl) (by kernel_rfl) ?_ ?_ (by assumption) ?_; rotate_left 2; (focus (simp only [List.getElem?_toArray, List.getElem?_cons_succ, List.getElem?_cons_zero]; rfl)); (focus (exact fun _ _ _ h => h)); first | (focus (refine Or.inl ⟨by rfl, ?_⟩; intro w hSw; (try dsimp only at hSw); (try dsimp only [Array.getD]); go_simp; (try with_reducible rfl))) | (focus (refine Or.inr ⟨by rfl, ?_⟩; rfl)) | fail "op 1"
        try simp only [Act.put, List.setIfInBounds_toArray, List.set_cons_zero, List.set_cons_succ]
        refine wpAnyH_take (i := 2) (oi := ?_) (v := ?_) ?_ (by kernel_rfl) (by kernel_rfl) (by kernel_rfl) ?_ ?_ (by assumption) ?_; rotate_left 2; (focus (simp only [List.getElem?_toArray, List.getElem?_cons_succ, List.getElem?_cons_zero]; rfl)); (focus (exact fun _ _ _ h => h)); first | (focus (refine Or.inl ⟨by rfl, ?_⟩; intro w hSw; (try dsimp only at hSw); (try dsimp only [Array.getD]); go_simp; (try with_reducible rfl))) | (focus (refine Or.inr ⟨by rfl, ?_⟩; rfl)) | fail "op 2"
        try simp only [Act.put, List.setIfInBounds_toArray, List.set_cons_zero, List.set_cons_succ]
        refine wpAnyH_take (i := 3) (oi := ?_) (v := ?_) ?_ (by kernel_rfl) (by kernel_rfl) (by kernel_rfl) ?_ ?_ (by assumption) ?_; rotate_left 2; (focus (simp only [List.getElem?_toArray, List.getElem?_cons_succ, List.getElem?_cons_zero]; rfl)); (focus (exact fun _ _ _ h => h)); first | (focus (refine Or.inl ⟨by rfl, ?_⟩; intro w hSw; (try dsimp only at hSw); refine (exec_load_mid 26 (.tmp 19) (by rfl) b1 (o1 + i * 6) (by rfl) (ptC x) _ (rangeAt_gr hSw G1.out) Try.underlying26 rfl info_pt).trans ?_; with_reducible rfl)) | (focus (refine Or.inr ⟨by rfl, ?_⟩; rfl)) | fail "op 3"
        try simp only [Act.put, List.setIfInBounds_toArray, List.set_cons_zero, List.set_cons_succ]
        refine wpAnyH_take (i := 4) (oi := ?_) (v := ?_) ?_ (by kernel_rfl) (by kernel_rfl) (by kernel_rfl) ?_ ?_ (by assumption) ?_; rotate_left 2; (focus (simp only [List.getElem?_toArray, List.getElem?_cons_succ, List.getElem?_cons_zero]; rfl)); (focus (exact fun _ _ _ h => h)); first | (focus (refine Or.inl ⟨by rfl, ?_⟩; intro w hSw; (try dsimp only at hSw); (try dsimp only [Array.getD]); go_simp; (try with_reducible rfl))) | (focus (refine Or.inr ⟨by rfl, ?_⟩; rfl)) | fail "op 4"
        try simp only [Act.put, List.setIfInBounds_toArray, List.set_cons_zero, List.set_cons_succ]
        refine wpAnyH_take (i := 5) (oi := ?_) (v := ?_) ?_ (by kernel_rfl) (by kernel_rfl) (by kernel_rfl) ?_ ?_ (by assumption) ?_; rotate_left 2; (focus (simp only [List.getElem?_toArray, List.getElem?_cons_succ, List.getElem?_cons_zero]; rfl)); (focus (exact fun _ _ _ h => h)); first | (focus (refine Or.inl ⟨by rfl, ?_⟩; intro w hSw; (try dsimp only at hSw); (try dsimp only [Array.getD]); go_simp; (try with_reducible rfl))) | (focus (refine Or.inr ⟨by rfl, ?_⟩; rfl)) | fail "op 5"
        try simp only [Act.put, List.setIfInBounds_toArray, List.set_cons_zero, List.set_cons_succ]
        refine wpAnyH_take (i := 6) (oi := ?_) (v := ?_) ?_ (by kernel_rfl) (by kernel_rfl) (by kernel_rfl) ?_ ?_ (by assumption) ?_; rotate_left 2; (focus (simp only [List.getElem?_toArray, List.getElem?_cons_succ, List.getElem?_cons_zero]; rfl)); (focus (exact fun _ _ _ h => h)); first | (focus (refine Or.inl ⟨by rfl, ?_⟩; intro w hSw; (try dsimp only at hSw); (try dsimp only [Array.getD]); go_simp; (try with_reducible rfl))) | (focus (refine Or.inr ⟨by rfl, ?_⟩; rfl)) | fail "op 6"
        try simp only [Act.put, List.setIfInBounds_toArray, List.set_cons_zero, List.set_cons_succ]
        refine wpAnyH_take (i := 7) (oi := ?_) (v := ?_) ?_ (by kernel_rfl) (by kernel_rfl) (by kernel_rfl) ?_ ?_ (by assumption) ?_; rotate_left 2; (focus (simp only [List.getElem?_toArray, List.getElem?_cons_succ, List.getElem?_cons_zero]; rfl)); (focus (exact fun _ _ _ h => h)); first | (focus (refine Or.inl ⟨by rfl, ?_⟩; intro w hSw; (try dsimp only at hSw); refine (exec_load_mid 26 (.tmp 23) (by rfl) b2 (o2 + i * 6) (by rfl) (ptC y) _ (rangeAt_gr hSw G2.out) Try.underlying26 rfl info_pt).trans ?_; with_reducible rfl)) | (focus (refine Or.inr ⟨by rfl, ?_⟩; rfl)) | fail "op 7"
        try simp only [Act.put, List.setIfInBounds_toArray, List.set_cons_zero, List.set_cons_succ]
        refine wpAnyH_take (i := 8) (oi := ?_) (v := ?_) ?_ (by kernel_rfl) (by kernel_rfl) (by kernel_rfl) ?_ ?_ (by assumption) ?_; rotate_left 2; (focus (simp only [List.getElem?_toArray, List.getElem?_cons_succ, List.getElem?_cons_zero]; rfl)); (focus (exact fun _ _ _ h => h)); first | (focus (refine Or.inl ⟨by rfl, ?_⟩; intro w hSw; (try dsimp only at hSw); (try dsimp only [Array.getD]); go_simp; refine (ne_pt x y _).trans ?_; with_reducible rfl)) | (focus (refine Or.inr ⟨by rfl, ?_⟩; rfl)) | fail "op 8"
        try simp only [Act.put, List.setIfInBounds_toArray, List.set_cons_zero, List.set_cons_succ]
        refine wpAnyH_done (by kernel_rfl) ?_ _
        have hg2 := hg.tr hHeld
        clear hHeld hz0
        by_cases hxy : x = y
        · have hd : decide (x ≠ y) = false := decide_eq_false (fun z => z hxy)
          rw [hd]
          have HE := Lib.hid (Ht.out.2 hxy)
          clear hd hxy
          go_wp2_with fail
          go_roundw
          case rel => exact ⟨i + 1, by omega, by go_num, HE, hg2⟩
          case measure => simp [intOf]; omega
        · have hd : decide (x ≠ y) = true := decide_eq_true hxy
          rw [hd]
          have HE := Lib.hid (Hn.out hxy)
          clear hd hxy
          go_wp2_with fail
          go_ret
          exact ⟨ret_b rfl (by rw [← Hr.out]; exact (decide_eq_false HE.out).symm), hg2⟩
      · obtain rfl : i = l1.length := by omega
        go_wp2_with fail
        go_ret
        exact ⟨ret_b rfl (by rw [← Hr.out]; exact (decide_eq_true (by have := hT.out; rwa [List.take_length, Hl.out, List.take_length] at this)).symm), hg⟩
  · have hr : decide (l1 = l2) = false := decide_eq_false (fun e => hlen (by rw [e]))
    rw [hr]
    have hlen' : ((l1.length : Int) == (l2.length : Int)) = false := by simp; omega
    clear hr
    go_enter Try.func22, Try.ntmps22
    go_wp2_with fail
    go_ret
    exact ⟨rfl, by (repeat (first | exact Gr.rfl' | refine Gr.al ?_ _ | refine Gr.dr ?_ | refine Gr.drN ?_ | refine Gr.sc ?_ (by simp <;> omega) _ | refine Gr.tr ?_ (by assumption)))⟩
end Go.Proofs.Ytpnpnjfflblkpaa

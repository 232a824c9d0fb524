/- Lists of points: Index, Contains, IndexFunc, DeleteFunc, at any function that is asked. -/
import Derived.Test.YtpnpnjfflblkpaaSpB
import Derived.Lib.SliceRun
import Derived.Laws.CopyRow
namespace Go.Proofs.Ytpnpnjfflblkpaa
open Go.RowKit Go.Maps Go.Sort

theorem run_eql_pt (x y : Pt) (w : World) : (binOp .eql 26 (ptV x) (ptV y)).run Try.prog w = .ok (.bool (decide (x = y))) w := by
  have h : (binOp .eql 26 (.agg #[.string x.s, .int .i64 x.t, .int .i64 x.v, .int .i64 x.c, .int .i64 x.st, .int .i64 x.q]) (.agg #[.string y.s, .int .i64 y.t, .int .i64 y.v, .int .i64 y.c, .int .i64 y.st, .int .i64 y.q])).run Try.prog w = .ok (.bool (decide (x = y))) w := by
    have hs : x.s.toList = y.s.toList ↔ x.s = y.s := by rw [Lib.toList_data, Lib.toList_data]; exact ⟨fun h => sb_inj h, fun h => by rw [h]⟩
    go_simp
    obtain ⟨x1, x2, x3, x4, x5, x6⟩ := x
    obtain ⟨y1, y2, y3, y4, y5, y6⟩ := y
    simp only [hs, Pt.mk.injEq] at *
    repeat' split
    all_goals simp_all
  exact h
theorem exec_eql_pt {o : Oper} {a : Act} {w : World} (x y : Operand) (ho : o.op = .binOp .eql 26 x y 26) (p q : Pt) (hx : a.eval x = ptV p) (hy : a.eval y = ptV q) : (execOp a.eval o).run Try.prog w = .ok (.value (.bool (decide (p = q)))) w := by
  unfold execOp
  have hr := run_eql_pt p q w
  have he : (eqGuard .eql 26 x y (ptV p) (ptV q)).run Try.prog w = .ok () w := by go_simp
  simp only [ho, hx, hy, Sem.run_bind, he, hr, Result.andThen_ok, Sem.run_pure]
set_option maxRecDepth 100000 in
set_option maxHeartbeats 4000000 in
theorem indexp_calls (v : Value) (l : List Pt) (p : Pt) (w : World) (hv : rdRow w 6 v l.length (encP l)) (hk : l.length ≤ 1000000) :
    Calls Try.prog 65 #[v, ptV p] w fun e w' => (∃ i : Int, e = .returned (.int .i64 i) ∧ (0 ≤ i ↔ p ∈ l)) ∧ Gr w w' := by
  obtain ⟨a, c, rfl⟩ : ∃ a c, v = .slice a l.length c := by obtain ⟨_, a, c, e, _⟩ := hv; exact ⟨a, c, e⟩
  have H := Lib.hid hv
  clear hv
  go_enter Try.func65, Try.ntmps65
  go_wp2_with fail
  obtain ⟨w5, e5, hg5, b5, s5⟩ := al_out w (.cells #[.string p.s, .int .i64 p.t, .int .i64 p.v, .int .i64 p.c, .int .i64 p.st, .int .i64 p.q] 26)
  rw [e5]
  obtain ⟨A, eA⟩ : ∃ A, w.heap.size = A := ⟨_, rfl⟩
  rw [eA] at b5
  (try rw [eA])
  have B5 := Lib.hid b5; have G5 := Lib.hid hg5; have H5 := Lib.hid (H.out.gr hg5)
  clear e5 hg5 b5 s5 eA H
  go_loopw [8] (fun iv wr => ∃ i : Nat, i ≤ l.length ∧ iv = .int .i64 i ∧ Hid (p ∉ l.take i) ∧ Hid (Gr w5 wr)) (fun iv _ => l.length - (intOf iv).toNat)
  case atStart => exact ⟨0, Nat.zero_le _, rfl, Lib.hid (by simp), Lib.hid Gr.rfl'⟩
  case round =>
    obtain ⟨i, hi, rfl, HN, HG⟩ := hrel
    by_cases hlt : i < l.length
    · have hlt' : (i : Int) < l.length := by omega
      obtain ⟨bl, ol, _, e1, _, hrg⟩ := rd_range ptC 6 pt_len6 (H5.out.gr HG.out) (by omega)
      replace e1 := (Value.slice.inj e1).1
      subst e1
      have Hin := Lib.hid (List.getElem_mem hlt)
      have Htk := Lib.hid (List.take_succ_eq_append_getElem hlt)
      have Hq := Lib.hid (hrg i hlt)
      obtain ⟨q, eq⟩ : ∃ q, l[i] = q := ⟨_, rfl⟩
      rw [eq] at Hq Hin Htk
      have Hb := Lib.hid (HG.out.blk B5.out)
      clear hrg eq
      obtain ⟨d, ed⟩ : ∃ d, decide (p = q) = d := ⟨_, rfl⟩
      have Hd := Lib.hid ed
      clear ed
      go_upto_region 4 with (fail)
      refine region_start (S := fun w' => Gr wr w') (by kernel_rfl) (by exact Gr.dr Gr.rfl') (fun wz hz0 hHeld => ?_)
      simp only [List.size_toArray, List.length_cons, List.length_nil, Nat.reduceAdd]
      refine wpAnyH_take (i := 0) (oi := ?_) (v := ?_) ?_ (by kernel_rfl) (by kernel_rfl) (by kernel_rfl) ?_ ?_ (by assumption) ?_; rotate_left 2; (focus (simp only [List.getElem?_toArray, List.getElem?_cons_zero]; rfl)); (focus (exact fun _ _ _ h => h)); first | (focus (refine Or.inl ⟨by rfl, ?_⟩; intro w hSw; (try dsimp only at hSw); refine (exec_load_row 26 (.tmp 3) (by rfl) A (by rfl) _ (ptC p).toArray (0, 0) _ (hSw.blk Hb.out) Try.underlying26 rfl info_pt).trans ?_; with_reducible rfl)) | (focus (refine Or.inr ⟨by rfl, ?_⟩; rfl)) | fail "op 0"
      try simp only [Act.put, List.setIfInBounds_toArray, List.set_cons_zero, List.set_cons_succ]
      refine wpAnyH_take (i := 1) (oi := ?_) (v := ?_) ?_ (by kernel_rfl) (by kernel_rfl) (by kernel_rfl) ?_ ?_ (by assumption) ?_; rotate_left 2; (focus (simp only [List.getElem?_toArray, List.getElem?_cons_succ, List.getElem?_cons_zero]; rfl)); (focus (exact fun _ _ _ h => h)); first | (focus (refine Or.inl ⟨by rfl, ?_⟩; intro w hSw; (try dsimp only at hSw); (try dsimp only [Array.getD]); go_simp; (try with_reducible rfl))) | (focus (refine Or.inr ⟨by rfl, ?_⟩; rfl)) | fail "op 1"
      try simp only [Act.put, List.setIfInBounds_toArray, List.set_cons_zero, List.set_cons_succ]
      refine wpAnyH_take (i := 2) (oi := ?_) (v := ?_) ?_ (by kernel_rfl) (by kernel_rfl) (by kernel_rfl) ?_ ?_ (by assumption) ?_; rotate_left 2; (focus (simp only [List.getElem?_toArray, List.getElem?_cons_succ, List.getElem?_cons_zero]; rfl)); (focus (exact fun _ _ _ h => h)); first | (focus (refine Or.inl ⟨by rfl, ?_⟩; intro w hSw; (try dsimp only at hSw); (try dsimp only [Array.getD]); go_simp; (try with_reducible rfl))) | (focus (refine Or.inr ⟨by rfl, ?_⟩; rfl)) | fail "op 2"
      try simp only [Act.put, List.setIfInBounds_toArray, List.set_cons_zero, List.set_cons_succ]
      refine wpAnyH_take (i := 3) (oi := ?_) (v := ?_) ?_ (by kernel_rfl) (by kernel_rfl) (by kernel_rfl) ?_ ?_ (by assumption) ?_; rotate_left 2; (focus (simp only [List.getElem?_toArray, List.getElem?_cons_succ, List.getElem?_cons_zero]; rfl)); (focus (exact fun _ _ _ h => h)); first | (focus (refine Or.inl ⟨by rfl, ?_⟩; intro w hSw; (try dsimp only at hSw); (try dsimp only [Array.getD]); go_simp; (try with_reducible rfl))) | (focus (refine Or.inr ⟨by rfl, ?_⟩; rfl)) | fail "op 3"
      try simp only [Act.put, List.setIfInBounds_toArray, List.set_cons_zero, List.set_cons_succ]
      refine wpAnyH_take (i := 4) (oi := ?_) (v := ?_) ?_ (by kernel_rfl) (by kernel_rfl) (by kernel_rfl) ?_ ?_ (by assumption) ?_; rotate_left 2; (focus (simp only [List.getElem?_toArray, List.getElem?_cons_succ, List.getElem?_cons_zero]; rfl)); (focus (exact fun _ _ _ h => h)); first | (focus (refine Or.inl ⟨by rfl, ?_⟩; intro w hSw; (try dsimp only at hSw); refine (exec_load_mid 26 (.tmp 14) (by rfl) bl (ol + i * 6) (by rfl) (ptC q) _ (rangeAt_gr hSw Hq.out) Try.underlying26 rfl info_pt).trans ?_; with_reducible rfl)) | (focus (refine Or.inr ⟨by rfl, ?_⟩; rfl)) | fail "op 4"
      try simp only [Act.put, List.setIfInBounds_toArray, List.set_cons_zero, List.set_cons_succ]
      refine wpAnyH_take (i := 5) (oi := ?_) (v := ?_) ?_ (by kernel_rfl) (by kernel_rfl) (by kernel_rfl) ?_ ?_ (by assumption) ?_; rotate_left 2; (focus (simp only [List.getElem?_toArray, List.getElem?_cons_succ, List.getElem?_cons_zero]; rfl)); (focus (exact fun _ _ _ h => h)); first | (focus (refine Or.inl ⟨by rfl, ?_⟩; intro w hSw; (try dsimp only at hSw); refine (exec_eql_pt (.tmp 11) (.tmp 15) (by rfl) p q (by rfl) (by rfl)).trans ?_; rw [Hd.out])) | (focus (refine Or.inr ⟨by rfl, ?_⟩; rfl)) | fail "op 5"
      try simp only [Act.put, List.setIfInBounds_toArray, List.set_cons_zero, List.set_cons_succ]
      refine wpAnyH_done (by kernel_rfl) ?_ _
      have G6 := Lib.hid (HG.out.tr hHeld)
      clear hHeld hz0
      cases d with
      | true =>
        have hpq : p = q := of_decide_eq_true Hd.out
        have Hpq := Lib.hid hpq
        clear hpq
        go_wp2_with fail
        go_ret
        exact ⟨⟨i, rfl, fun _ => by rw [Hpq.out]; exact Hin.out, fun _ => by omega⟩, G5.out.tr G6.out⟩
      | false =>
        have HN2 := Lib.hid (show p ∉ l.take (i + 1) from by
          rw [Htk.out, List.mem_append, List.mem_singleton]
          rintro (z | z)
          · exact HN.out z
          · exact of_decide_eq_false Hd.out z)
        go_wp2_with fail
        go_roundw
        case rel => exact ⟨i + 1, by omega, by go_num, HN2, G6⟩
        case measure => simp [intOf]; omega
    · obtain rfl : i = l.length := by omega
      have hno := HN.out
      rw [List.take_length] at hno
      clear hlt
      go_wp2_with fail
      go_ret
      exact ⟨⟨-1, rfl, fun h => absurd h (by decide), fun h => absurd h hno⟩, G5.out.tr HG.out⟩
set_option maxRecDepth 100000 in
theorem containsp_calls (v : Value) (l : List Pt) (p : Pt) (w : World) (hv : rdRow w 6 v l.length (encP l)) (hk : l.length ≤ 1000000) :
    Calls Try.prog 50 #[v, ptV p] w fun e w' => e = .returned (.bool (decide (p ∈ l))) ∧ Gr w w' := by
  have H := Lib.hid hv
  have Hc := Lib.hid (fun W (hg : Gr w W) => indexp_calls v l p W (hv.gr hg) hk)
  clear hv
  go_enter Try.func50, Try.ntmps50
  go_wp2_with fail
  obtain ⟨w5, e5, hg5, b5, s5⟩ := al_out w (.cells #[.string p.s, .int .i64 p.t, .int .i64 p.v, .int .i64 p.c, .int .i64 p.st, .int .i64 p.q] 26)
  rw [e5]
  obtain ⟨A, eA⟩ : ∃ A, w.heap.size = A := ⟨_, rfl⟩
  rw [eA] at b5
  (try rw [eA])
  have B5 := Lib.hid b5; have G5 := Lib.hid hg5
  clear e5 hg5 b5 s5 eA
  go_wp2_with (first | (refine wpList_load_rowg (by rfl) 26 (.tmp 3) rfl A rfl _ (ptC p).toArray (0, 0) _ B5.out Try.underlying26 rfl info_pt ?_))
  refine (Hc.out _ G5.out).mono ?_
  rintro e w6 ⟨⟨i, rfl, hi⟩, hg⟩
  have Hd := Lib.hid (show decide (0 ≤ i) = decide (p ∈ l) from decide_eq_decide.2 hi)
  have G6 := Lib.hid (G5.out.tr hg)
  clear hi hg
  go_wp2_with fail
  go_ret
  exact ⟨ret_b rfl Hd.out, G6.out⟩
end Go.Proofs.Ytpnpnjfflblkpaa

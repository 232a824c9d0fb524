import Derived.Test.YtafdddakkenlaaaWp0
import Derived.Test.YtafdddakkenlaaaWpA
import Derived.Laws.BitsLemmas
namespace Go.Proofs.Ytafdddakkenlaaa
open Go.RowKit Go.Sort Go.Shelf
attribute [local go_sem ↓] field26_0 field26_1
attribute [local go_sem] Oper.semAt_some

theorem and3 (q : Int) : 0 ≤ bits .and .i64 q 3 ∧ bits .and .i64 q 3 < 4 := by
  have h : (BitVec.ofInt IntKind.i64.bits q &&& BitVec.ofInt IntKind.i64.bits 3).toNat < 4 := by
    have e : (BitVec.ofInt IntKind.i64.bits 3).toNat = 3 := by decide
    rw [BitVec.toNat_and, e]
    exact Nat.lt_of_le_of_lt Nat.and_le_right (by decide)
  simp only [bits]
  rw [IntKind.wrap_i64]
  omega
theorem turnW {f : FuncId} {args : Array Value} {w : World} {v : Value} (h : Calls Try.prog f args w fun e w' => e = .returned v ∧ w = w') : Calls Try.prog f args w fun e w' => e = .returned v ∧ w' = w := h.mono fun _ _ ⟨a, b⟩ => ⟨a, b.symm⟩
theorem alloc5 (w : World) (o1 o2 o3 o4 o5 : Obj) : ((((w.alloc o1).alloc o2).alloc o3).alloc o4).alloc o5 = ((((w.alloc o1).alloc o2).alloc o3).alloc o4).alloc o5 ∧ (((((w.alloc o1).alloc o2).alloc o3).alloc o4).alloc o5).heap.size = w.heap.size + 5 ∧
    (((((w.alloc o1).alloc o2).alloc o3).alloc o4).alloc o5).heap[w.heap.size]? = some o1 ∧ (((((w.alloc o1).alloc o2).alloc o3).alloc o4).alloc o5).heap[w.heap.size + 1]? = some o2 ∧ (((((w.alloc o1).alloc o2).alloc o3).alloc o4).alloc o5).heap[w.heap.size + 1 + 1]? = some o3 ∧
    (((((w.alloc o1).alloc o2).alloc o3).alloc o4).alloc o5).heap[w.heap.size + 1 + 1 + 1]? = some o4 ∧ (((((w.alloc o1).alloc o2).alloc o3).alloc o4).alloc o5).heap[w.heap.size + 1 + 1 + 1 + 1]? = some o5 ∧ Gr w (((((w.alloc o1).alloc o2).alloc o3).alloc o4).alloc o5) := by
  have up : ∀ (W : World) (o : Obj) (j : Nat) (x : Obj), W.heap[j]? = some x → (W.alloc o).heap[j]? = some x := fun W o j x h => (Below.heap_alloc _ _ _ (Array.getElem?_eq_some_iff.1 h).1).trans h
  have h1 := heap_alloc_new w o1
  have h2 := heap_alloc_new (w.alloc o1) o2
  have h3 := heap_alloc_new ((w.alloc o1).alloc o2) o3
  have h4 := heap_alloc_new (((w.alloc o1).alloc o2).alloc o3) o4
  have h5 := heap_alloc_new ((((w.alloc o1).alloc o2).alloc o3).alloc o4) o5
  simp only [World.size_alloc] at h2 h3 h4 h5
  exact ⟨rfl, by simp, up _ _ _ _ (up _ _ _ _ (up _ _ _ _ (up _ _ _ _ h1))), up _ _ _ _ (up _ _ _ _ (up _ _ _ _ h2)), up _ _ _ _ (up _ _ _ _ h3), up _ _ _ _ h4, h5, by (repeat (first | exact Gr.rfl' | refine Gr.al ?_ _ | refine Gr.dr ?_ | refine Gr.drN ?_ | refine Gr.sc ?_ (by simp <;> omega) _ | refine Gr.tr ?_ (by assumption)))⟩
theorem name_tm {c : Code} {P : Program} {Q : Exit → Act → World → Prop} {tm : Array Value} {w : World} (h : ∀ tm', tm' = tm → c.wp P Q ⟨tm', []⟩ w) : c.wp P Q ⟨tm, []⟩ w := h tm rfl
/-- The loop's own cells: the result's, the count's, the last one's. -/
def mineP (R V : Nat) (_ : World) (j : Nat) : Prop := j = R ∨ j = V + 1 ∨ j = V + 1 + 1
def IP (S V : Nat) (f b k : Int) (pre : List Sp) (W : World) : Prop :=
  Boxed W (V + 1) 3 (.int .i64 pre.length) ∧ Boxed W (V + 1 + 1) 3 (.int .i64 (lastOf pre)) ∧ Boxed W V 3 (.int .i64 k) ∧ W.cell? ⟨S, 0, none⟩ = some (.int .i64 f) ∧ W.cell? ⟨S, 1, none⟩ = some (.int .i64 b)
theorem kpP_putObj {R V n : Nat} {W : World} {l : Nat} {o o' : Obj} (_ : n ≤ l) (h : W.heap[l]? = some o) (ho : o.isCells = false) (_ : V < n) : Kp (mineP R V) W (W.putObj l o') := by
  have hsz : (W.putObj l o').heap.size = W.heap.size := by simp
  refine ⟨by omega, fun j c ty f hj _ => ?_, fun j hj => .inl hj⟩
  rw [World.putObj_heap_other (fun e => ?_), hj]
  subst e; rw [h] at hj; cases hj; cases ho
theorem boxed_gr {W WX : World} (hg : Gr W WX) {B : Nat} {t : TypeId} {v : Value} (h : Boxed W B t v) : Boxed WX B t v := (hg.block _ h.lt).trans h
theorem parts_bad {W WX : World} (hgg : Gr W WX) (n0 R : Nat) (v : Value) : KeepsFrom n0 W (WX.setCell ⟨R, 0, none⟩ v) :=
  (KeepsFrom.of_grownBy (gbN hgg) (by intro j hj; cases hj)).trans ((KeepsOthers.setCell _ _ _).from _)
theorem parts_good {w W WX : World} {n0 S V : Nat} {f b k p q : Int} {pre : List Sp} (h1 : w.heap.size + 1 < S) (h2 : S < V) (hgg : Gr W WX) (hR : Boxed W (w.heap.size + 1) 4 (.bool false)) (hI : IP S V f b k pre W) (hB : Below w.heap.size w W) (hWs : n0 ≤ W.heap.size) :
    KeepsFrom n0 W ((WX.setCell ⟨V + 1 + 1, 0, none⟩ (.int .i64 q)).setCell ⟨V + 1, 0, none⟩ (.int .i64 ((pre.length : Int) + 1))) ∧ Kp (mineP (w.heap.size + 1) V) W ((WX.setCell ⟨V + 1 + 1, 0, none⟩ (.int .i64 q)).setCell ⟨V + 1, 0, none⟩ (.int .i64 ((pre.length : Int) + 1))) ∧
    ((Boxed ((WX.setCell ⟨V + 1 + 1, 0, none⟩ (.int .i64 q)).setCell ⟨V + 1, 0, none⟩ (.int .i64 ((pre.length : Int) + 1))) (w.heap.size + 1) 4 (.bool false) ∧ IP S V f b k (pre ++ [(p, q)]) ((WX.setCell ⟨V + 1 + 1, 0, none⟩ (.int .i64 q)).setCell ⟨V + 1, 0, none⟩ (.int .i64 ((pre.length : Int) + 1)))) ∧
      (Below w.heap.size w ((WX.setCell ⟨V + 1 + 1, 0, none⟩ (.int .i64 q)).setCell ⟨V + 1, 0, none⟩ (.int .i64 ((pre.length : Int) + 1))) ∧ n0 ≤ ((WX.setCell ⟨V + 1 + 1, 0, none⟩ (.int .i64 q)).setCell ⟨V + 1, 0, none⟩ (.int .i64 ((pre.length : Int) + 1))).heap.size)) := by
  obtain ⟨hM, hL, hK, s0, s1⟩ := hI
  have hz := hgg.size
  have hsz : ((WX.setCell ⟨V + 1 + 1, 0, none⟩ (.int .i64 q)).setCell ⟨V + 1, 0, none⟩ (.int .i64 ((pre.length : Int) + 1))).heap.size = WX.heap.size := by simp
  have hBw := hB.size
  refine ⟨(KeepsFrom.of_grownBy (gbN hgg) (by intro j hj; cases hj)).trans (((KeepsOthers.setCell _ _ _).from _).trans ((KeepsOthers.setCell _ _ _).from _)), ⟨by omega, fun j c ty fz hj hm => ?_, fun j hj => .inl hj⟩, ⟨?_, ?_, ?_, ?_, ?_, ?_⟩, ?_, by omega⟩
  · have hj1 : j ≠ V + 1 := fun e => hm (.inr (.inl e))
    have hj2 : j ≠ V + 1 + 1 := fun e => hm (.inr (.inr e))
    rw [Below.heap_setCell _ _ _ _ hj1, Below.heap_setCell _ _ _ _ hj2]
    exact (hgg.block _ (Array.getElem?_eq_some_iff.1 hj).1).trans hj
  · exact ((boxed_gr hgg hR).other (by omega) _).other (by omega) _
  · have := ((boxed_gr hgg hM).other (B' := V + 1 + 1) (by omega) (.int .i64 q)).set (.int .i64 ((pre.length : Int) + 1))
    simpa using this
  · have := ((boxed_gr hgg hL).set (.int .i64 q)).other (B' := V + 1) (by omega) (.int .i64 ((pre.length : Int) + 1))
    rw [lastOf_snoc]; exact this
  · exact ((boxed_gr hgg hK).other (by omega) _).other (by omega) _
  · rw [World.cell?_setCell_other _ _ _ _ (by simp), World.cell?_setCell_other _ _ _ _ (by simp)]; exact keepc hgg s0
  · rw [World.cell?_setCell_other _ _ _ _ (by simp), World.cell?_setCell_other _ _ _ _ (by simp)]; exact keepc hgg s1
  · exact Below.setCell (Below.setCell (hB.trans (hgg.mono (by omega))) (by show w.heap.size ≤ V + 1 + 1; omega) _) (by show w.heap.size ≤ V + 1; omega) _
set_option maxRecDepth 100000 in
set_option maxHeartbeats 4000000 in
theorem parts_law (t f q0 q1 : Int) (w : World) :
    Calls Try.prog 6 #[.int .i64 t, .int .i64 f, .agg #[.int .i64 q0, .int .i64 q1]] w fun e w' => e = .returned (.bool true) ∧ Gr w w' := by
  refine calls_marks Try.func6 rfl ?_
  simp only [Try.ntmps6, List.size_toArray, List.length_cons, List.length_nil, Nat.reduceAdd, Nat.reduceSub, Array.replicate_succ, Array.replicate_zero, List.push_toArray, List.append_toArray, List.nil_append, List.cons_append]
  go_wp2_with fail
  refine (awake_calls _).mono ?_
  rintro e w1 ⟨rfl, hb⟩
  have hG : Gr w w1 := by (repeat (first | exact Gr.rfl' | refine Gr.al ?_ _ | refine Gr.dr ?_ | refine Gr.drN ?_ | refine Gr.sc ?_ (by simp <;> omega) _ | refine Gr.tr ?_ (by assumption)))
  have bQ : w1.heap[w.heap.size]? = some (.cells #[.int .i64 q0, .int .i64 q1] 47 (0, 0)) := (hb.block w.heap.size (by simp <;> omega)).trans ((Below.heap_alloc _ _ _ (by simp <;> omega)).trans (heap_alloc_new w _))
  have bR : Boxed w1 (w.heap.size + 1) 4 (.bool false) := (hb.block (w.heap.size + 1) (by simp <;> omega)).trans (by have := heap_alloc_new (w.alloc (.cells #[.int .i64 q0, .int .i64 q1] 47)) (.cells #[.bool false] 4); rwa [World.size_alloc] at this)
  have hlt1 := bR.lt
  have cR := bR.cell
  have fR := bR.frozen
  have x0 : w1.cell? ⟨w.heap.size, 0, none⟩ = some (.int .i64 q0) := by rw [cell_of_row _ w.heap.size 0 _ _ _ bQ]; rfl
  have x1 : w1.cell? ⟨w.heap.size, 1, none⟩ = some (.int .i64 q1) := by rw [cell_of_row _ w.heap.size 1 _ _ _ bQ]; rfl
  clear hb
  by_cases h1 : t < 0
  · go_wp2_with fail
    have cE := World.cell?_setCell_same w1 ⟨w.heap.size + 1, 0, none⟩ (.bool true) cR
    refine ⟨.bool true, by simp [results, Try.results6, go_sem, cE], rfl, by (repeat (first | exact Gr.rfl' | refine Gr.al ?_ _ | refine Gr.dr ?_ | refine Gr.drN ?_ | refine Gr.sc ?_ (by simp <;> omega) _ | refine Gr.tr ?_ (by assumption)))⟩
  by_cases h2 : 1099511627776 < t
  · go_wp2_with fail
    have cE := World.cell?_setCell_same w1 ⟨w.heap.size + 1, 0, none⟩ (.bool true) cR
    refine ⟨.bool true, by simp [results, Try.results6, go_sem, cE], rfl, by (repeat (first | exact Gr.rfl' | refine Gr.al ?_ _ | refine Gr.dr ?_ | refine Gr.drN ?_ | refine Gr.sc ?_ (by simp <;> omega) _ | refine Gr.tr ?_ (by assumption)))⟩
  go_upto_if 5 with fail
  go_loopw [8] (fun v wr => ∃ j : Int, v = .int .i64 j ∧ 0 ≤ j ∧ j ≤ 4 ∧ Gr w1 wr) (fun v _ => (4 - intOf v).toNat)
  case atStart => exact ⟨0, rfl, by omega, by omega, Gr.rfl'⟩
  case round =>
    obtain ⟨j, rfl, hj0, hj4, hg⟩ := hrel
    have hgz := hg.size
    by_cases hlt : j < 4
    · obtain ⟨p1, p2, p3, p4, p5, p6, p7, p8⟩ := part_of (t := t) (k := j) (by omega) (by omega) hj0 hlt
      have hWb := w_of3 hj0 hlt
      have hof := of_calls t j
      have hof1 := of_calls t (j + 1)
      have hs1 := start_calls (wOf t j).1 j
      have hs2 := start_calls ((wOf t j).2 - 1) j
      have hwd := width_calls j
      rw [p5] at hs1
      rw [p6] at hs2
      clear p5 p6
      generalize wOf t j = pq at *
      generalize wOf t (j + 1) = rs at *
      generalize wWidth j = W at *
      obtain ⟨p, q⟩ := pq
      obtain ⟨r, s⟩ := rs
      simp only at *
      have Hof := Lib.hid hof; have Hof1 := Lib.hid hof1; have Hs1 := Lib.hid hs1; have Hs2 := Lib.hid hs2; have Hwd := Lib.hid hwd
      clear hof hof1 hs1 hs2 hwd
      have q1 : IntKind.i64.wrap (j + 1) = j + 1 := IntWalk.i64_in _ (by omega)
      have q2 : IntKind.i64.wrap (q - 1) = q - 1 := IntWalk.i64_in _ (by omega)
      have q3 : p.tmod W = 0 := by rw [Int.tmod_eq_emod_of_nonneg p7]; exact p3
      have q4 : ¬ W = 0 := by omega
      go_wp2_with fail
      refine (Hof.out _).mono ?_
      rintro e w2 ⟨rfl, hb⟩
      have hG2 := (hg.tr hb).al (.cells #[.int .i64 p, .int .i64 q] 26)
      have a0 : (w2.alloc (.cells #[.int .i64 p, .int .i64 q] 26)).cell? ⟨w2.heap.size, 0, none⟩ = some (.int .i64 p) := by simp
      have a1 : (w2.alloc (.cells #[.int .i64 p, .int .i64 q] 26)).cell? ⟨w2.heap.size, 1, none⟩ = some (.int .i64 q) := by simp
      clear hb
      go_wp2_with fail
      refine (Hof1.out _).mono ?_
      rintro e w3 ⟨rfl, hb⟩
      replace hG2 := (hG2.tr hb).al (.cells #[.int .i64 r, .int .i64 s] 26)
      replace a0 := keepc (Gr.al hb (.cells #[.int .i64 r, .int .i64 s] 26)) a0
      replace a1 := keepc (Gr.al hb (.cells #[.int .i64 r, .int .i64 s] 26)) a1
      have b0 : (w3.alloc (.cells #[.int .i64 r, .int .i64 s] 26)).cell? ⟨w3.heap.size, 0, none⟩ = some (.int .i64 r) := by simp
      have b1 : (w3.alloc (.cells #[.int .i64 r, .int .i64 s] 26)).cell? ⟨w3.heap.size, 1, none⟩ = some (.int .i64 s) := by simp
      clear hb
      go_wp2_with fail
      generalize w3.alloc (.cells #[.int .i64 r, .int .i64 s] 26) = W3 at *
      generalize w2.heap.size = B9 at *
      generalize w3.heap.size = B10 at *
      clear w2 w3
      have n1 : decide (t < p) = false := decide_eq_false (by omega)
      have n2 : decide (q ≤ t) = false := decide_eq_false (by omega)
      have n2' : decide (t ≥ q) = false := decide_eq_false (by omega)
      have n3 : (p % W) = 0 := p3
      have n4 : decide (j < 3) = true ∧ decide (p < r) = false ∧ decide (r > p) = false ∧ decide (s < q) = false ∨ decide (j < 3) = false := by
        by_cases h3 : j < 3
        · obtain ⟨p41, p42⟩ := p4 h3
          exact .inl ⟨decide_eq_true h3, decide_eq_false (by omega), decide_eq_false (by omega), decide_eq_false (by omega)⟩
        · exact .inr (decide_eq_false h3)
      have hj5 : 0 ≤ j + 1 ∧ j + 1 ≤ 4 := by omega
      have hj6 : (4 - (j + 1)).toNat < (4 - j).toNat := by omega
      have HJ := Lib.hid (And.intro hj5 hj6)
      clear p1 p2 p3 p4 hlt hWb hj5 hj6
--[[
      rcases n4 with ⟨n4, n5, n6, n7⟩ | n4
      all_goals
        go_quiet (first | (go_at_call 11; refine Calls.quiet_of_same (turnW (Hwd.out _))) | (go_at_call 13; with_reducible refine Calls.quiet_of_same (turnW (Hs1.out _))) | (go_at_call 13; with_reducible refine Calls.quiet_of_same (turnW (Hs2.out _))))
        all_goals
          go_wp2_with fail
          go_roundw
          case rel => exact ⟨_, rfl, HJ.out.1.1, HJ.out.1.2, by (repeat (first | exact Gr.rfl' | refine Gr.al ?_ _ | refine Gr.dr ?_ | refine Gr.drN ?_ | refine Gr.sc ?_ (by simp <;> omega) _ | refine Gr.tr ?_ (by assumption)))⟩
          case measure => exact HJ.out.2
--]]
    · obtain rfl : j = 4 := by omega
      clear hlt hj0 hj4
      replace cR := keepc hg cR
      replace x0 := keepc hg x0
      replace x1 := keepc hg x1
      replace fR : wr.frozen? ⟨w.heap.size + 1, 0, none⟩ = false := (hg.frozen (p := ⟨w.heap.size + 1, 0, none⟩) hlt1).trans fR
      have bR2 : Boxed wr (w.heap.size + 1) 4 (.bool false) := (hg.block _ hlt1).trans bR
      replace hG := hG.tr hg
      clear bQ bR hg
      generalize w1.heap.size = V1 at *
      by_cases h3 : f < 0
      · go_wp2_with fail
        have cE := World.cell?_setCell_same wr ⟨w.heap.size + 1, 0, none⟩ (.bool true) cR
        refine ⟨.bool true, by simp [results, Try.results6, go_sem, cE], rfl, by (repeat (first | exact Gr.rfl' | refine Gr.al ?_ _ | refine Gr.dr ?_ | refine Gr.drN ?_ | refine Gr.sc ?_ (by simp <;> omega) _ | refine Gr.tr ?_ (by assumption)))⟩
      by_cases h4 : 1099511627776 < f
      · go_wp2_with fail
        have cE := World.cell?_setCell_same wr ⟨w.heap.size + 1, 0, none⟩ (.bool true) cR
        refine ⟨.bool true, by simp [results, Try.results6, go_sem, cE], rfl, by (repeat (first | exact Gr.rfl' | refine Gr.al ?_ _ | refine Gr.dr ?_ | refine Gr.drN ?_ | refine Gr.sc ?_ (by simp <;> omega) _ | refine Gr.tr ?_ (by assumption)))⟩
      obtain ⟨N0, hN0⟩ : ∃ N0, q0.tmod 5000 = N0 := ⟨_, rfl⟩
      have hNb : -5000 < N0 ∧ N0 < 5000 := by rw [← hN0]; exact ⟨Int.lt_tmod_of_pos q0 (by decide), Int.tmod_lt_of_pos q0 (by decide)⟩
      obtain ⟨M, hM⟩ : ∃ M, (if N0 < 0 then -N0 else N0) = M := ⟨_, rfl⟩
      have hMb : 0 ≤ M ∧ M < 5000 := by omega
      go_upto_if 107 with fail
      go_cut [11] from 106 to 109 (fun v wx => v = .int .i64 M ∧ wx = wr)
      case first =>
        by_cases h5 : N0 < 0
        · rw [if_pos h5] at hM
          have q5 : IntKind.i64.wrap (-N0) = M := by rw [hM]; exact IntWalk.i64_in _ (by omega)
          clear hM
          go_wp2_with fail
          go_meet
          exact ⟨rfl, rfl⟩
        · rw [if_neg h5] at hM
          subst hM
          go_wp2_with fail
          go_meet
          exact ⟨rfl, rfl⟩
      case rest =>
        obtain ⟨rfl, rfl⟩ := hcut
        clear hM hNb hN0
        have q6 : IntKind.i64.wrap (f + M) = f + M := IntWalk.i64_in _ (by omega)
        obtain ⟨b, hb⟩ : ∃ b, min (f + M) 1099511627777 = b := ⟨_, rfl⟩
        have hbb : f ≤ b ∧ b ≤ 1099511627777 := by omega
        obtain ⟨S, hS⟩ : ∃ S, wc.heap.size = S := ⟨_, rfl⟩
        have hA := heap_alloc_new wc (.cells #[.int .i64 f, .int .i64 (f + M)] 26)
        have s0 : (wc.alloc (.cells #[.int .i64 f, .int .i64 (f + M)] 26)).cell? ⟨S, 0, none⟩ = some (.int .i64 f) := by rw [← hS, cell_of_row _ _ 0 _ _ _ hA]; rfl
        have s1 : (wc.alloc (.cells #[.int .i64 f, .int .i64 (f + M)] 26)).cell? ⟨S, 1, none⟩ = some (.int .i64 (f + M)) := by rw [← hS, cell_of_row _ _ 1 _ _ _ hA]; rfl
        have s2 : (wc.alloc (.cells #[.int .i64 f, .int .i64 (f + M)] 26)).frozen? ⟨S, 1, none⟩ = false := by subst hS; simp
        go_upto_if 117 with fail
        go_cut [] from 115 to 118 (fun wx => wx.cell? ⟨S, 0, none⟩ = some (.int .i64 f) ∧ wx.cell? ⟨S, 1, none⟩ = some (.int .i64 b) ∧ S < wx.heap.size ∧ Gr wc wx)
        case first =>
          by_cases h5 : 1099511627777 < f + M
          · have hb' : b = 1099511627777 := by omega
            go_wp2_with fail
            go_meet
            exact ⟨by rw [← hS, cell_of_row _ _ 0 _ _ _ (heap_alloc_new wc _)]; rfl, by rw [← hS, cell_of_row _ _ 1 _ _ _ (heap_alloc_new wc _), hb']; rfl, by rw [← hS]; simp, by (repeat (first | exact Gr.rfl' | refine Gr.al ?_ _ | refine Gr.dr ?_ | refine Gr.drN ?_ | refine Gr.sc ?_ (by simp <;> omega) _ | refine Gr.tr ?_ (by assumption)))⟩
          · have hb' : b = f + M := by omega
            go_wp2_with fail
            go_meet
            exact ⟨s0, by rw [s1, hb'], by rw [← hS]; simp, by (repeat (first | exact Gr.rfl' | refine Gr.al ?_ _ | refine Gr.dr ?_ | refine Gr.drN ?_ | refine Gr.sc ?_ (by simp <;> omega) _ | refine Gr.tr ?_ (by assumption)))⟩
        case rest =>
          obtain ⟨c0, c1, hSl, hgc⟩ := hcut
          clear s0 s1 s2 hA q6 hb
          have hS0 := bR2.lt
          rw [hS] at hS0
          clear hS
          replace hG := hG.tr hgc
          replace bR2 : Boxed wc (w.heap.size + 1) 4 (.bool false) := (hgc.block _ bR2.lt).trans bR2
          replace x1 := keepc hgc x1
          have hff : 0 ≤ f ∧ f ≤ 1099511627776 := by omega
          clear hgc cR fR x0 hgz hlt1 hMb h1 h2 h3 h4
          have y1 := fun o1 o2 o3 => keepc (Gr.al (Gr.al (Gr.al Gr.rfl' o1) o2) o3) c0
          have y2 := fun o1 o2 o3 => keepc (Gr.al (Gr.al (Gr.al Gr.rfl' o1) o2) o3) c1
          have hk3 := and3 q1
          go_wp2_with fail
          generalize bits .and .i64 q1 3 = k at *
          refine (each_calls f b k _).mono ?_
          rintro e w2 ⟨rfl, rfl⟩
          obtain ⟨_, hsz, bK, bM, bL, bS, bT, hG0⟩ := alloc5 wc (.cells #[.int .i64 k] 3) (.cells #[.int .i64 0] 3) (.cells #[.int .i64 (-1)] 3) (.cells #[.int .i64 f, .int .i64 b] 26) (.cells #[.int .i64 k] 3)
          simp only [World.size_alloc]
          replace c0 := keepc hG0 c0
          replace c1 := keepc hG0 c1
          replace bR2 : Boxed _ (w.heap.size + 1) 4 (.bool false) := (hG0.block _ bR2.lt).trans bR2
          replace hG := hG.tr hG0
          clear y1 y2 x1 hG0
          generalize ((((wc.alloc (.cells #[.int .i64 k] 3)).alloc (.cells #[.int .i64 0] 3)).alloc (.cells #[.int .i64 (-1)] 3)).alloc (.cells #[.int .i64 f, .int .i64 b] 26)).alloc (.cells #[.int .i64 k] 3) = W0 at *
          generalize wc.heap.size = V at *
          clear wc
          go_wp2_with fail
          have hst := each_stops (mineP (w.heap.size + 1) V) 5 (by omega) (V + 1 + 1 + 1) (V + 1 + 1 + 1 + 1) f b k W0
            (fun A B j _ _ hm => hm) (fun W hg j hm => by have := hg.size; unfold mineP at hm; omega) (fun W hg hm => by unfold mineP at hm; omega) bS bT
          have hcb : (wCount (f, b) k).toNat ≤ 1099511627778 := by
            have := wCover_bd (f, b) k
            unfold wCount; split
            · omega
            · have h1 : ((wCover (f, b) k).2 - 1) / wWidth k ≤ (wCover (f, b) k).2 := by
                by_cases h0 : 0 ≤ (wCover (f, b) k).2 - 1
                · have := Int.ediv_le_self (wWidth k) h0; omega
                · have := Int.ediv_neg_of_neg_of_pos (a := (wCover (f, b) k).2 - 1) (b := wWidth k) (by omega) (by have := w_of3 hk3.1 hk3.2; omega); omega
              have h2 : 0 ≤ (wCover (f, b) k).1 / wWidth k := Int.ediv_nonneg (by omega) (by have := w_of3 hk3.1 hk3.2; omega)
              omega
          refine name_tm fun tm htm => ?_
          refine wpIn_wide.1 (wpIn_rangeFunc_ownH (n := 6) rfl (by omega) (gf := 43) (lb := #[.pointer (some ⟨V + 1 + 1 + 1, 0, none⟩), .pointer (some ⟨V + 1 + 1 + 1 + 1, 0, none⟩)]) (by subst htm; rfl) trivial (enters_of Try.func43 (by kernel_rfl) rfl)
            hst Kp.tr (fun W l o o' hl h hc _ => kpP_putObj hl h hc (by omega)) (Below.refl _ _) (fun _ => rfl)
            (fun pre W => (Boxed W (w.heap.size + 1) 4 (.bool false) ∧ IP S V f b k pre W) ∧ (Below w.heap.size w W ∧ W0.heap.size ≤ W.heap.size))
            (fun cd pre _ => cd = .ret ∧ badW f k pre)
            (OwnFrom.and (Own.from (fun s A B row hs hg hr => ⟨boxed_own (w.heap.size + 1) 4 (fun _ : List Sp => .bool false) s A B row hs.1 hg hr, boxed_own (V + 1) 3 (fun pre : List Sp => .int .i64 pre.length) s A B row hs.2.1 hg hr, boxed_own (V + 1 + 1) 3 (fun pre : List Sp => .int .i64 (lastOf pre)) s A B row hs.2.2.1 hg hr,
              boxed_own V 3 (fun _ : List Sp => .int .i64 k) s A B row hs.2.2.2.1 hg hr, cell_kept hs.2.2.2.2.1 hg hr, cell_kept hs.2.2.2.2.2 hg hr⟩) _) (OwnFrom.and (ownFrom_below (by omega) (by omega)) (fun s A B row hs hg hr => Nat.le_trans hs hg.size)))
            (fun c => ownFrom_pure _ (fun pre => c = .ret ∧ badW f k pre))
            ⟨⟨bR2, bM, bL, bK, c0, c1⟩, hG, Nat.le_refl _⟩
            (fun x a' W => ∃ Bx, W0.heap.size ≤ Bx ∧ W.heap[Bx]? = some (.cells #[.int .i64 x.1, .int .i64 x.2] 26 (0, 0)) ∧ a' = ⟨(tm.setIfInBounds 125 (.agg #[.int .i64 x.1, .int .i64 x.2])).setIfInBounds 16 (.pointer (some ⟨Bx, 0, none⟩)), []⟩) ?hAx ?assign ?body ?done ?stop)
          case hAx =>
            rintro x a' _ X Y row ⟨Bx, h1, h2, h3⟩ hg hr
            exact ⟨Bx, h1, (hg.block Bx (Array.getElem?_eq_some_iff.1 h2).1 (fun e => by obtain ⟨_, o, ho, hc⟩ := hr _ e.symm; rw [h2] at ho; cases ho; cases hc)).trans h2, h3⟩
          case assign =>
            rintro l pre x W K ⟨⟨hR, hM, hL, hKb, s0, s1⟩, hB, hWs⟩ hK
            subst htm
            gi_wp2
            exact hK _ _ ((KeepsOthers.alloc _ _).from _) ⟨by simp, fun j c ty fz hj _ => (Below.heap_alloc _ _ _ (Array.getElem?_eq_some_iff.1 hj).1).trans hj, fun j hj => .inl hj⟩
              ⟨⟨hR.alloc _, hM.alloc _, hL.alloc _, hKb.alloc _, keepc (Gr.al Gr.rfl' _) s0, keepc (Gr.al Gr.rfl' _) s1⟩, hB.alloc hB.size _, by simp; omega⟩ ⟨W.heap.size, hWs, heap_alloc_new W _, rfl⟩
          case body =>
            rintro l pre x a' W hl ⟨r, hr⟩ ⟨⟨hR, hM, hL, hKb, s0, s1⟩, hB, hWs⟩ ⟨Bx, hBx, bX, rfl⟩ hlt
            subst htm
            simp only [List.setIfInBounds_toArray, List.set_cons_zero, List.set_cons_succ]
            obtain ⟨p, q⟩ := x
            have x0 : W.cell? ⟨Bx, 0, none⟩ = some (.int .i64 p) := by rw [cell_of_row _ Bx 0 _ _ _ bX]; rfl
            have x1 : W.cell? ⟨Bx, 1, none⟩ = some (.int .i64 q) := by rw [cell_of_row _ Bx 1 _ _ _ bX]; rfl
            have cM := hM.cell
            have cL := hL.cell
            have cK := hKb.cell
            have hof := of_calls p k
            obtain ⟨p2, hp2⟩ : ∃ z, (wOf p k).1 = z := ⟨_, rfl⟩
            obtain ⟨q2, hq2⟩ : ∃ z, (wOf p k).2 = z := ⟨_, rfl⟩
            rw [hp2, hq2] at hof
            obtain ⟨mv, hmv⟩ : ∃ z, (pre.length : Int) = z := ⟨_, rfl⟩
            obtain ⟨lv, hlv⟩ : ∃ z, lastOf pre = z := ⟨_, rfl⟩
            rw [hmv] at cM
            rw [hlv] at cL
            have hmv0 : 0 ≤ mv ∧ mv < 1099511627778 := by omega
            have q7 : IntKind.i64.wrap (mv + 1) = mv + 1 := IntWalk.i64_in _ (by omega)
            have hcases : ((mv == 0) = true ∧ decide (0 < mv) = false ∧ decide (f < p) = true ∧ badW f k (pre ++ [(p, q)])) ∨
                ((mv == 0) = true ∧ decide (0 < mv) = false ∧ decide (f < p) = false ∧ decide (q ≤ f) = true ∧ badW f k (pre ++ [(p, q)])) ∨
                ((mv == 0) = true ∧ decide (0 < mv) = false ∧ decide (f < p) = false ∧ decide (q ≤ f) = false ∧ (¬ p2 = p ∨ (p2 = p ∧ ¬ q2 = q)) ∧ badW f k (pre ++ [(p, q)])) ∨
                ((mv == 0) = true ∧ decide (0 < mv) = false ∧ decide (f < p) = false ∧ decide (q ≤ f) = false ∧ (p2 = p ∧ q2 = q)) ∨
                ((mv == 0) = false ∧ decide (0 < mv) = true ∧ ((p == lv) = false ∧ (p != lv) = true ∧ decide (p = lv) = false) ∧ badW f k (pre ++ [(p, q)])) ∨
                ((mv == 0) = false ∧ decide (0 < mv) = true ∧ ((p == lv) = true ∧ (p != lv) = false ∧ decide (p = lv) = true) ∧ (¬ p2 = p ∨ (p2 = p ∧ ¬ q2 = q)) ∧ badW f k (pre ++ [(p, q)])) ∨
                ((mv == 0) = false ∧ decide (0 < mv) = true ∧ ((p == lv) = true ∧ (p != lv) = false ∧ decide (p = lv) = true) ∧ (p2 = p ∧ q2 = q)) := by
              have hW : (¬ p2 = p ∨ (p2 = p ∧ ¬ q2 = q)) → badW f k (pre ++ [(p, q)]) := fun h => ⟨pre, (p, q), rfl, .inr (.inr fun e => by
                have e1 : p2 = p := by rw [← hp2]; exact congrArg Prod.fst e
                have e2 : q2 = q := by rw [← hq2]; exact congrArg Prod.snd e
                rcases h with h | ⟨_, h⟩
                · exact h e1
                · exact h e2)⟩
              have hW2 : (p2 = p ∧ q2 = q) ∨ (¬ p2 = p ∨ (p2 = p ∧ ¬ q2 = q)) := by
                by_cases e1 : p2 = p
                · by_cases e2 : q2 = q
                  · exact .inl ⟨e1, e2⟩
                  · exact .inr (.inr ⟨e1, e2⟩)
                · exact .inr (.inl e1)
              by_cases h0 : pre = []
              · have e0 : mv = 0 := by rw [← hmv, h0]; rfl
                have a1 : (mv == 0) = true := by simp [e0]
                have a2 : decide (0 < mv) = false := by simp [e0]
                by_cases hA : f < p
                · exact .inl ⟨a1, a2, decide_eq_true hA, ⟨pre, (p, q), rfl, .inl ⟨h0, .inl hA⟩⟩⟩
                have a3 : decide (f < p) = false := decide_eq_false hA
                by_cases hA2 : q ≤ f
                · exact .inr (.inl ⟨a1, a2, a3, decide_eq_true hA2, ⟨pre, (p, q), rfl, .inl ⟨h0, .inr hA2⟩⟩⟩)
                have a4 : decide (q ≤ f) = false := decide_eq_false hA2
                rcases hW2 with h | h
                · exact .inr (.inr (.inr (.inl ⟨a1, a2, a3, a4, h⟩)))
                · exact .inr (.inr (.inl ⟨a1, a2, a3, a4, h, hW h⟩))
              · have hl : 0 < pre.length := List.length_pos_iff.2 h0
                have a1 : (mv == 0) = false := by rw [beq_eq_false_iff_ne]; omega
                have a2 : decide (0 < mv) = true := decide_eq_true (by omega)
                by_cases hA : p = lv
                · have a3 : (p == lv) = true ∧ (p != lv) = false ∧ decide (p = lv) = true := by simp [hA]
                  rcases hW2 with h | h
                  · exact .inr (.inr (.inr (.inr (.inr (.inr ⟨a1, a2, a3, h⟩)))))
                  · exact .inr (.inr (.inr (.inr (.inr (.inl ⟨a1, a2, a3, h, hW h⟩)))))
                · have a3 : (p == lv) = false ∧ (p != lv) = true ∧ decide (p = lv) = false := by simp [hA]
                  exact .inr (.inr (.inr (.inr (.inl ⟨a1, a2, a3, ⟨pre, (p, q), rfl, .inr (.inl ⟨h0, by rw [hlv]; exact hA⟩)⟩⟩))))
            clear hp2 hq2 hmv0
--[[
            rcases hcases with ⟨g1, g2, g3, hbad⟩ | ⟨g1, g2, g3, g4, hbad⟩ | ⟨g1, g2, g3, g4, g5 | ⟨e1, g5⟩, hbad⟩ | ⟨g1, g2, g3, g4, e1, e2⟩ | ⟨g1, g2, ⟨g3, g6, g7⟩, hbad⟩ | ⟨g1, g2, ⟨g3, g6, g7⟩, g4 | ⟨e1, g4⟩, hbad⟩ | ⟨g1, g2, ⟨g3, g6, g7⟩, e1, e2⟩
            all_goals try have Hbad := Lib.hid hbad
            all_goals try clear hbad
            all_goals
              gi_wp2_with fail
              refine regionIn_held (by kernel_rfl) ?_ (by kernel_rfl) (S := fun w' => w'.cell? ⟨V + 1, 0, none⟩ = some (.int .i64 mv) ∧ w'.cell? ⟨V + 1 + 1, 0, none⟩ = some (.int .i64 lv) ∧ w'.cell? ⟨V, 0, none⟩ = some (.int .i64 k) ∧ w'.cell? ⟨S, 0, none⟩ = some (.int .i64 f) ∧ w'.cell? ⟨Bx, 0, none⟩ = some (.int .i64 p) ∧ w'.cell? ⟨Bx, 1, none⟩ = some (.int .i64 q)) ⟨cM, cL, cK, s0, x0, x1⟩ (fun hHeld => ?_)
              · rintro ⟨_, _, h⟩; exact h
              · simp only [List.size_toArray, List.length_cons, List.length_nil, Nat.reduceAdd]
                refine wpAnyH_take (i := 0) (oi := ?_) (v := ?_) ?_ (by kernel_rfl) (by kernel_rfl) (by kernel_rfl) ?_ ?_ (by assumption) ?_; rotate_left 2; (focus (simp only [List.getElem?_toArray, List.getElem?_cons_succ, List.getElem?_cons_zero]; rfl)); (focus (exact fun _ _ _ h => h)); first | (focus (refine Or.inl ⟨by rfl, ?_⟩; intro w hSw; (try dsimp only at hSw); go_simp; (try with_reducible rfl))) | (focus (refine Or.inr ⟨by rfl, ?_⟩; rfl)) | fail "op 0"
                simp only [Act.put, List.setIfInBounds_toArray, List.set_cons_zero, List.set_cons_succ]
                refine wpAnyH_take (i := 1) (oi := ?_) (v := ?_) ?_ (by kernel_rfl) (by kernel_rfl) (by kernel_rfl) ?_ ?_ (by assumption) ?_; rotate_left 2; (focus (simp only [List.getElem?_toArray, List.getElem?_cons_succ, List.getElem?_cons_zero]; rfl)); (focus (exact fun _ _ _ h => h)); first | (focus (refine Or.inl ⟨by rfl, ?_⟩; intro w hSw; (try dsimp only at hSw); go_simp; (try with_reducible rfl))) | (focus (refine Or.inr ⟨by rfl, ?_⟩; rfl)) | fail "op 1"
                simp only [Act.put, List.setIfInBounds_toArray, List.set_cons_zero, List.set_cons_succ]
                refine wpAnyH_take (i := 2) (oi := ?_) (v := ?_) ?_ (by kernel_rfl) (by kernel_rfl) (by kernel_rfl) ?_ ?_ (by assumption) ?_; rotate_left 2; (focus (simp only [List.getElem?_toArray, List.getElem?_cons_succ, List.getElem?_cons_zero]; rfl)); (focus (exact fun _ _ _ h => h)); first | (focus (refine Or.inl ⟨by rfl, ?_⟩; intro w hSw; (try dsimp only at hSw); go_simp; (try with_reducible rfl))) | (focus (refine Or.inr ⟨by rfl, ?_⟩; rfl)) | fail "op 2"
                simp only [Act.put, List.setIfInBounds_toArray, List.set_cons_zero, List.set_cons_succ]
                refine wpAnyH_take (i := 3) (oi := ?_) (v := ?_) ?_ (by kernel_rfl) (by kernel_rfl) (by kernel_rfl) ?_ ?_ (by assumption) ?_; rotate_left 2; (focus (simp only [List.getElem?_toArray, List.getElem?_cons_succ, List.getElem?_cons_zero]; rfl)); (focus (exact fun _ _ _ h => h)); first | (focus (refine Or.inl ⟨by rfl, ?_⟩; intro w hSw; (try dsimp only at hSw); go_simp; (try with_reducible rfl))) | (focus (refine Or.inr ⟨by rfl, ?_⟩; rfl)) | fail "op 3"
                simp only [Act.put, List.setIfInBounds_toArray, List.set_cons_zero, List.set_cons_succ]
                refine wpAnyH_take (i := 4) (oi := ?_) (v := ?_) ?_ (by kernel_rfl) (by kernel_rfl) (by kernel_rfl) ?_ ?_ (by assumption) ?_; rotate_left 2; (focus (simp only [List.getElem?_toArray, List.getElem?_cons_succ, List.getElem?_cons_zero]; rfl)); (focus (exact fun _ _ _ h => h)); first | (focus (refine Or.inl ⟨by rfl, ?_⟩; intro w hSw; (try dsimp only at hSw); go_simp; (try with_reducible rfl))) | (focus (refine Or.inr ⟨by rfl, ?_⟩; rfl)) | fail "op 4"
                simp only [Act.put, List.setIfInBounds_toArray, List.set_cons_zero, List.set_cons_succ]
                refine wpAnyH_take (i := 5) (oi := ?_) (v := ?_) ?_ (by kernel_rfl) (by kernel_rfl) (by kernel_rfl) ?_ ?_ (by assumption) ?_; rotate_left 2; (focus (simp only [List.getElem?_toArray, List.getElem?_cons_succ, List.getElem?_cons_zero]; rfl)); (focus (exact fun _ _ _ h => h)); first | (focus (refine Or.inl ⟨by rfl, ?_⟩; intro w hSw; (try dsimp only at hSw); go_simp; (try with_reducible rfl))) | (focus (refine Or.inr ⟨by rfl, ?_⟩; rfl)) | fail "op 5"
                simp only [Act.put, List.setIfInBounds_toArray, List.set_cons_zero, List.set_cons_succ]
                refine wpAnyH_take (i := 6) (oi := ?_) (v := ?_) ?_ (by kernel_rfl) (by kernel_rfl) (by kernel_rfl) ?_ ?_ (by assumption) ?_; rotate_left 2; (focus (simp only [List.getElem?_toArray, List.getElem?_cons_succ, List.getElem?_cons_zero]; rfl)); (focus (exact fun _ _ _ h => h)); first | (focus (refine Or.inl ⟨by rfl, ?_⟩; intro w hSw; (try dsimp only at hSw); go_simp; (try with_reducible rfl))) | (focus (refine Or.inr ⟨by rfl, ?_⟩; rfl)) | fail "op 6"
                simp only [Act.put, List.setIfInBounds_toArray, List.set_cons_zero, List.set_cons_succ]
                refine wpAnyH_take (i := 7) (oi := ?_) (v := ?_) ?_ (by kernel_rfl) (by kernel_rfl) (by kernel_rfl) ?_ ?_ (by assumption) ?_; rotate_left 2; (focus (simp only [List.getElem?_toArray, List.getElem?_cons_succ, List.getElem?_cons_zero]; rfl)); (focus (exact fun _ _ _ h => h)); first | (focus (refine Or.inl ⟨by rfl, ?_⟩; intro w hSw; (try dsimp only at hSw); go_simp; (try with_reducible rfl))) | (focus (refine Or.inr ⟨by rfl, ?_⟩; rfl)) | fail "op 7"
                simp only [Act.put, List.setIfInBounds_toArray, List.set_cons_zero, List.set_cons_succ]
                refine wpAnyH_take (i := 8) (oi := ?_) (v := ?_) ?_ (by kernel_rfl) (by kernel_rfl) (by kernel_rfl) ?_ ?_ (by assumption) ?_; rotate_left 2; (focus (simp only [List.getElem?_toArray, List.getElem?_cons_succ, List.getElem?_cons_zero]; rfl)); (focus (exact fun _ _ _ h => h)); first | (focus (refine Or.inl ⟨by rfl, ?_⟩; intro w hSw; (try dsimp only at hSw); go_simp; (try with_reducible rfl))) | (focus (refine Or.inr ⟨by rfl, ?_⟩; rfl)) | fail "op 8"
                simp only [Act.put, List.setIfInBounds_toArray, List.set_cons_zero, List.set_cons_succ]
                refine wpAnyH_take (i := 9) (oi := ?_) (v := ?_) ?_ (by kernel_rfl) (by kernel_rfl) (by kernel_rfl) ?_ ?_ (by assumption) ?_; rotate_left 2; (focus (simp only [List.getElem?_toArray, List.getElem?_cons_succ, List.getElem?_cons_zero]; rfl)); (focus (exact fun _ _ _ h => h)); first | (focus (refine Or.inl ⟨by rfl, ?_⟩; intro w hSw; (try dsimp only at hSw); go_simp; (try with_reducible rfl))) | (focus (refine Or.inr ⟨by rfl, ?_⟩; rfl)) | fail "op 9"
                simp only [Act.put, List.setIfInBounds_toArray, List.set_cons_zero, List.set_cons_succ]
                refine wpAnyH_take (i := 10) (oi := ?_) (v := ?_) ?_ (by kernel_rfl) (by kernel_rfl) (by kernel_rfl) ?_ ?_ (by assumption) ?_; rotate_left 2; (focus (simp only [List.getElem?_toArray, List.getElem?_cons_succ, List.getElem?_cons_zero]; rfl)); (focus (exact fun _ _ _ h => h)); first | (focus (refine Or.inl ⟨by rfl, ?_⟩; intro w hSw; (try dsimp only at hSw); go_simp; (try with_reducible rfl))) | (focus (refine Or.inr ⟨by rfl, ?_⟩; rfl)) | fail "op 10"
                simp only [Act.put, List.setIfInBounds_toArray, List.set_cons_zero, List.set_cons_succ]
                refine wpAnyH_take (i := 11) (oi := ?_) (v := ?_) ?_ (by kernel_rfl) (by kernel_rfl) (by kernel_rfl) ?_ ?_ (by assumption) ?_; rotate_left 2; (focus (simp only [List.getElem?_toArray, List.getElem?_cons_succ, List.getElem?_cons_zero]; rfl)); (focus (exact fun _ _ _ h => h)); first | (focus (refine Or.inl ⟨by rfl, ?_⟩; intro w hSw; (try dsimp only at hSw); go_simp; (try with_reducible rfl))) | (focus (refine Or.inr ⟨by rfl, ?_⟩; rfl)) | fail "op 11"
                simp only [Act.put, List.setIfInBounds_toArray, List.set_cons_zero, List.set_cons_succ]
                refine wpAnyH_take (i := 12) (oi := ?_) (v := ?_) ?_ (by kernel_rfl) (by kernel_rfl) (by kernel_rfl) ?_ ?_ (by assumption) ?_; rotate_left 2; (focus (simp only [List.getElem?_toArray, List.getElem?_cons_succ, List.getElem?_cons_zero]; rfl)); (focus (exact fun _ _ _ h => h)); first | (focus (refine Or.inl ⟨by rfl, ?_⟩; intro w hSw; (try dsimp only at hSw); go_simp; (try with_reducible rfl))) | (focus (refine Or.inr ⟨by rfl, ?_⟩; rfl)) | fail "op 12"
                simp only [Act.put, List.setIfInBounds_toArray, List.set_cons_zero, List.set_cons_succ]
                refine wpAnyH_take (i := 13) (oi := ?_) (v := ?_) ?_ (by kernel_rfl) (by kernel_rfl) (by kernel_rfl) ?_ ?_ (by assumption) ?_; rotate_left 2; (focus (simp only [List.getElem?_toArray, List.getElem?_cons_succ, List.getElem?_cons_zero]; rfl)); (focus (exact fun _ _ _ h => h)); first | (focus (refine Or.inl ⟨by rfl, ?_⟩; intro w hSw; (try dsimp only at hSw); go_simp; (try with_reducible rfl))) | (focus (refine Or.inr ⟨by rfl, ?_⟩; rfl)) | fail "op 13"
                simp only [Act.put, List.setIfInBounds_toArray, List.set_cons_zero, List.set_cons_succ]
                refine wpAnyH_take (i := 14) (oi := ?_) (v := ?_) ?_ (by kernel_rfl) (by kernel_rfl) (by kernel_rfl) ?_ ?_ (by assumption) ?_; rotate_left 2; (focus (simp only [List.getElem?_toArray, List.getElem?_cons_succ, List.getElem?_cons_zero]; rfl)); (focus (exact fun _ _ _ h => h)); first | (focus (refine Or.inl ⟨by rfl, ?_⟩; intro w hSw; (try dsimp only at hSw); go_simp; (try with_reducible rfl))) | (focus (refine Or.inr ⟨by rfl, ?_⟩; rfl)) | fail "op 14"
                simp only [Act.put, List.setIfInBounds_toArray, List.set_cons_zero, List.set_cons_succ]
                refine wpAnyH_take (i := 15) (oi := ?_) (v := ?_) ?_ (by kernel_rfl) (by kernel_rfl) (by kernel_rfl) ?_ ?_ (by assumption) ?_; rotate_left 2; (focus (simp only [List.getElem?_toArray, List.getElem?_cons_succ, List.getElem?_cons_zero]; rfl)); (focus (exact fun _ _ _ h => h)); first | (focus (refine Or.inl ⟨by rfl, ?_⟩; intro w hSw; (try dsimp only at hSw); go_simp; (try with_reducible rfl))) | (focus (refine Or.inr ⟨by rfl, ?_⟩; rfl)) | fail "op 15"
                simp only [Act.put, List.setIfInBounds_toArray, List.set_cons_zero, List.set_cons_succ]
                refine wpAnyH_take (i := 16) (oi := ?_) (v := ?_) ?_ (by kernel_rfl) (by kernel_rfl) (by kernel_rfl) ?_ ?_ (by assumption) ?_; rotate_left 2; (focus (simp only [List.getElem?_toArray, List.getElem?_cons_succ, List.getElem?_cons_zero]; rfl)); (focus (exact fun _ _ _ h => h)); first | (focus (refine Or.inl ⟨by rfl, ?_⟩; intro w hSw; (try dsimp only at hSw); go_simp; (try with_reducible rfl))) | (focus (refine Or.inr ⟨by rfl, ?_⟩; rfl)) | fail "op 16"
                simp only [Act.put, List.setIfInBounds_toArray, List.set_cons_zero, List.set_cons_succ]
                refine wpAnyH_take (i := 17) (oi := ?_) (v := ?_) ?_ (by kernel_rfl) (by kernel_rfl) (by kernel_rfl) ?_ ?_ (by assumption) ?_; rotate_left 2; (focus (simp only [List.getElem?_toArray, List.getElem?_cons_succ, List.getElem?_cons_zero]; rfl)); (focus (exact fun _ _ _ h => h)); first | (focus (refine Or.inl ⟨by rfl, ?_⟩; intro w hSw; (try dsimp only at hSw); go_simp; (try with_reducible rfl))) | (focus (refine Or.inr ⟨by rfl, ?_⟩; rfl)) | fail "op 17"
                simp only [Act.put, List.setIfInBounds_toArray, List.set_cons_zero, List.set_cons_succ]
                refine wpAnyH_take (i := 18) (oi := ?_) (v := ?_) ?_ (by kernel_rfl) (by kernel_rfl) (by kernel_rfl) ?_ ?_ (by assumption) ?_; rotate_left 2; (focus (simp only [List.getElem?_toArray, List.getElem?_cons_succ, List.getElem?_cons_zero]; rfl)); (focus (exact fun _ _ _ h => h)); first | (focus (refine Or.inl ⟨by rfl, ?_⟩; intro w hSw; (try dsimp only at hSw); go_simp; (try with_reducible rfl))) | (focus (refine Or.inr ⟨by rfl, ?_⟩; rfl)) | fail "op 18"
                simp only [Act.put, List.setIfInBounds_toArray, List.set_cons_zero, List.set_cons_succ]
                refine wpAnyH_take (i := 19) (oi := ?_) (v := ?_) ?_ (by kernel_rfl) (by kernel_rfl) (by kernel_rfl) ?_ ?_ (by assumption) ?_; rotate_left 2; (focus (simp only [List.getElem?_toArray, List.getElem?_cons_succ, List.getElem?_cons_zero]; rfl)); (focus (exact fun _ _ _ h => h)); first | (focus (refine Or.inl ⟨by rfl, ?_⟩; intro w hSw; (try dsimp only at hSw); go_simp; (try with_reducible rfl))) | (focus (refine Or.inr ⟨by rfl, ?_⟩; rfl)) | fail "op 19"
                simp only [Act.put, List.setIfInBounds_toArray, List.set_cons_zero, List.set_cons_succ]
                refine wpAnyH_take (i := 20) (oi := ?_) (v := ?_) ?_ (by kernel_rfl) (by kernel_rfl) (by kernel_rfl) ?_ ?_ (by assumption) ?_; rotate_left 2; (focus (simp only [List.getElem?_toArray, List.getElem?_cons_succ, List.getElem?_cons_zero]; rfl)); (focus (exact fun _ _ _ h => h)); first | (focus (refine Or.inl ⟨by rfl, ?_⟩; intro w hSw; (try dsimp only at hSw); go_simp; (try with_reducible rfl))) | (focus (refine Or.inr ⟨by rfl, ?_⟩; rfl)) | fail "op 20"
                simp only [Act.put, List.setIfInBounds_toArray, List.set_cons_zero, List.set_cons_succ]
                refine wpAnyH_take (i := 21) (oi := ?_) (v := ?_) ?_ (by kernel_rfl) (by kernel_rfl) (by kernel_rfl) ?_ ?_ (by assumption) ?_; rotate_left 2; (focus (simp only [List.getElem?_toArray, List.getElem?_cons_succ, List.getElem?_cons_zero]; rfl)); (focus (exact fun _ _ _ h => h)); first | (focus (refine Or.inl ⟨by rfl, ?_⟩; intro w hSw; (try dsimp only at hSw); go_simp; (try with_reducible rfl))) | (focus (refine Or.inr ⟨by rfl, ?_⟩; rfl)) | fail "op 21"
                simp only [Act.put, List.setIfInBounds_toArray, List.set_cons_zero, List.set_cons_succ]
                refine wpAnyH_take (i := 22) (oi := ?_) (v := ?_) ?_ (by kernel_rfl) (by kernel_rfl) (by kernel_rfl) ?_ ?_ (by assumption) ?_; rotate_left 2; (focus (simp only [List.getElem?_toArray, List.getElem?_cons_succ, List.getElem?_cons_zero]; rfl)); (focus (exact fun _ _ _ h => h)); first | (focus (refine Or.inl ⟨by rfl, ?_⟩; intro w hSw; (try dsimp only at hSw); go_simp; (try with_reducible rfl))) | (focus (refine Or.inr ⟨by rfl, ?_⟩; rfl)) | fail "op 22"
                simp only [Act.put, List.setIfInBounds_toArray, List.set_cons_zero, List.set_cons_succ]
                refine wpAnyH_take (i := 23) (oi := ?_) (v := ?_) ?_ (by kernel_rfl) (by kernel_rfl) (by kernel_rfl) ?_ ?_ (by assumption) ?_; rotate_left 2; (focus (simp only [List.getElem?_toArray, List.getElem?_cons_succ, List.getElem?_cons_zero]; rfl)); (focus (exact fun _ _ _ h => h)); first | (focus (refine Or.inl ⟨by rfl, ?_⟩; intro w hSw; (try dsimp only at hSw); go_simp; (try with_reducible rfl))) | (focus (refine Or.inr ⟨by rfl, ?_⟩; rfl)) | fail "op 23"
                simp only [Act.put, List.setIfInBounds_toArray, List.set_cons_zero, List.set_cons_succ]
                refine wpAnyH_take (i := 24) (oi := ?_) (v := ?_) ?_ (by kernel_rfl) (by kernel_rfl) (by kernel_rfl) ?_ ?_ (by assumption) ?_; rotate_left 2; (focus (simp only [List.getElem?_toArray, List.getElem?_cons_succ, List.getElem?_cons_zero]; rfl)); (focus (exact fun _ _ _ h => h)); first | (focus (refine Or.inl ⟨by rfl, ?_⟩; intro w hSw; (try dsimp only at hSw); go_simp; (try with_reducible rfl))) | (focus (refine Or.inr ⟨by rfl, ?_⟩; rfl)) | fail "op 24"
                simp only [Act.put, List.setIfInBounds_toArray, List.set_cons_zero, List.set_cons_succ]
                refine wpAnyH_take (i := 25) (oi := ?_) (v := ?_) ?_ (by kernel_rfl) (by kernel_rfl) (by kernel_rfl) ?_ ?_ (by assumption) ?_; rotate_left 2; (focus (simp only [List.getElem?_toArray, List.getElem?_cons_succ, List.getElem?_cons_zero]; rfl)); (focus (exact fun _ _ _ h => h)); first | (focus (refine Or.inl ⟨by rfl, ?_⟩; intro w hSw; (try dsimp only at hSw); go_simp; (try with_reducible rfl))) | (focus (refine Or.inr ⟨by rfl, ?_⟩; rfl)) | fail "op 25"
                simp only [Act.put, List.setIfInBounds_toArray, List.set_cons_zero, List.set_cons_succ]
                refine wpAnyH_take (i := 26) (oi := ?_) (v := ?_) ?_ (by kernel_rfl) (by kernel_rfl) (by kernel_rfl) ?_ ?_ (by assumption) ?_; rotate_left 2; (focus (simp only [List.getElem?_toArray, List.getElem?_cons_succ, List.getElem?_cons_zero]; rfl)); (focus (exact fun _ _ _ h => h)); first | (focus (refine Or.inl ⟨by rfl, ?_⟩; intro w hSw; (try dsimp only at hSw); go_simp; (try with_reducible rfl))) | (focus (refine Or.inr ⟨by rfl, ?_⟩; rfl)) | fail "op 26"
                simp only [Act.put, List.setIfInBounds_toArray, List.set_cons_zero, List.set_cons_succ]
                refine wpAnyH_take (i := 27) (oi := ?_) (v := ?_) ?_ (by kernel_rfl) (by kernel_rfl) (by kernel_rfl) ?_ ?_ (by assumption) ?_; rotate_left 2; (focus (simp only [List.getElem?_toArray, List.getElem?_cons_succ, List.getElem?_cons_zero]; rfl)); (focus (exact fun _ _ _ h => h)); first | (focus (refine Or.inl ⟨by rfl, ?_⟩; intro w hSw; (try dsimp only at hSw); go_simp; (try with_reducible rfl))) | (focus (refine Or.inr ⟨by rfl, ?_⟩; rfl)) | fail "op 27"
                simp only [Act.put, List.setIfInBounds_toArray, List.set_cons_zero, List.set_cons_succ]
                refine wpAnyH_take (i := 28) (oi := ?_) (v := ?_) ?_ (by kernel_rfl) (by kernel_rfl) (by kernel_rfl) ?_ ?_ (by assumption) ?_; rotate_left 2; (focus (simp only [List.getElem?_toArray, List.getElem?_cons_succ, List.getElem?_cons_zero]; rfl)); (focus (exact fun _ _ _ h => h)); first | (focus (refine Or.inl ⟨by rfl, ?_⟩; intro w hSw; (try dsimp only at hSw); go_simp; (try with_reducible rfl))) | (focus (refine Or.inr ⟨by rfl, ?_⟩; rfl)) | fail "op 28"
                simp only [Act.put, List.setIfInBounds_toArray, List.set_cons_zero, List.set_cons_succ]
                refine wpAnyH_take (i := 29) (oi := ?_) (v := ?_) ?_ (by kernel_rfl) (by kernel_rfl) (by kernel_rfl) ?_ ?_ (by assumption) ?_; rotate_left 2; (focus (simp only [List.getElem?_toArray, List.getElem?_cons_succ, List.getElem?_cons_zero]; rfl)); (focus (exact fun _ _ _ h => h)); first | (focus (refine Or.inl ⟨by rfl, ?_⟩; intro w hSw; (try dsimp only at hSw); go_simp; (try with_reducible rfl))) | (focus (refine Or.inr ⟨by rfl, ?_⟩; rfl)) | fail "op 29"
                simp only [Act.put, List.setIfInBounds_toArray, List.set_cons_zero, List.set_cons_succ]
                refine wpAnyH_take (i := 31) (oi := ?_) (v := ?_) ?_ (by kernel_rfl) (by kernel_rfl) (by kernel_rfl) ?_ ?_ (by assumption) ?_; rotate_left 2; (focus (simp only [List.getElem?_toArray, List.getElem?_cons_succ, List.getElem?_cons_zero]; rfl)); (focus (exact fun _ _ _ h => h)); first | (focus (refine Or.inl ⟨by rfl, ?_⟩; intro w hSw; (try dsimp only at hSw); go_simp; (try with_reducible rfl))) | (focus (refine Or.inr ⟨by rfl, ?_⟩; rfl)) | fail "op 31"
                simp only [Act.put, List.setIfInBounds_toArray, List.set_cons_zero, List.set_cons_succ]
                refine wpAnyH_ready (rs := [30]) (by kernel_rfl) (by simp) ?_
                refine AllReadyH.cons (o := ?_) ?_ (fun K hK => ?_) AllReadyH.nil
                rotate_left
                focus (simp only [List.getElem?_toArray, List.getElem?_cons_succ, List.getElem?_cons_zero]; rfl)
                first
                  | (go_simp
                     go_at_call 15
                     refine (hof _).mono ?_
                     rintro e w4 ⟨rfl, hb⟩
                     have hgg : Gr W w4 := (Gr.dr Gr.rfl').tr hb
                     refine hK.out _ _ ⟨keepc hb hHeld.1, keepc hb hHeld.2.1, keepc hb hHeld.2.2.1, keepc hb hHeld.2.2.2.1, keepc hb hHeld.2.2.2.2.1, keepc hb hHeld.2.2.2.2.2⟩ (fun hHeld2 => ?_))
                  | (refine Eq.mpr (if_neg (fun h => Bool.false_ne_true h)) ?_
                     have hgg : Gr W W.drew := Gr.dr Gr.rfl'
                     refine hK.out _ _ hHeld (fun hHeld2 => ?_))
                clear hK K
                try simp only [Act.put, List.setIfInBounds_toArray, List.set_cons_zero, List.set_cons_succ]
                refine wpAnyH_take (i := 32) (oi := ?_) (v := ?_) ?_ (by kernel_rfl) (by kernel_rfl) (by kernel_rfl) ?_ ?_ (by assumption) ?_; rotate_left 2; (focus (simp only [List.getElem?_toArray, List.getElem?_cons_succ, List.getElem?_cons_zero]; rfl)); (focus (exact fun _ _ _ h => h)); first | (focus (refine Or.inl ⟨by rfl, ?_⟩; intro w hSw; (try dsimp only at hSw); go_simp; (try with_reducible rfl))) | (focus (refine Or.inr ⟨by rfl, ?_⟩; rfl)) | fail "op 32"
                try simp only [Act.put, List.setIfInBounds_toArray, List.set_cons_zero, List.set_cons_succ]
                refine wpAnyH_take (i := 33) (oi := ?_) (v := ?_) ?_ (by kernel_rfl) (by kernel_rfl) (by kernel_rfl) ?_ ?_ (by assumption) ?_; rotate_left 2; (focus (simp only [List.getElem?_toArray, List.getElem?_cons_succ, List.getElem?_cons_zero]; rfl)); (focus (exact fun _ _ _ h => h)); first | (focus (refine Or.inl ⟨by rfl, ?_⟩; intro w hSw; (try dsimp only at hSw); go_simp; (try with_reducible rfl))) | (focus (refine Or.inr ⟨by rfl, ?_⟩; rfl)) | fail "op 33"
                try simp only [Act.put, List.setIfInBounds_toArray, List.set_cons_zero, List.set_cons_succ]
                refine wpAnyH_done (by kernel_rfl) ?_ _
                obtain ⟨m1, m2, m3, m4, m5, m6⟩ := hHeld2
                have cR2 := (boxed_gr hgg hR).cell
                have fR2 := (boxed_gr hgg hR).frozen
                have fM2 := (boxed_gr hgg hM).frozen
                have fL2 := (boxed_gr hgg hL).frozen
                gi_wp2_with fail
                first
                  | exact ⟨parts_bad hgg _ _ _, rfl, Hbad.out⟩
                  | (have hgd := parts_good (p := p) (q := q) hS0 hSl hgg hR ⟨hM, hL, hKb, s0, s1⟩ hB hWs
                     rw [hmv] at hgd
                     exact hgd)
--]]
          case stop =>
            rintro D cd pre W hD ⟨m, hm, rfl⟩ ⟨_, hbad⟩ hK
            exact absurd hbad (part_fits hff.1 hbb.1 hbb.2 hff.2 hk3.1 hk3.2 m hm)
          case done =>
            rintro D xs W hD rfl ⟨⟨hR, hM, hL, hKb, s0, s1⟩, hB, hWs⟩ hK
            subst htm
            have cM := hM.cell
            have cL := hL.cell
            have cK := hKb.cell
            have cR := hR.cell
            have fR := hR.frozen
            have hRl := hR.lt
            obtain ⟨e1, e2, e3, e4⟩ := part_end hff.1 hbb.1 hbb.2 hff.2 hk3.1 hk3.2
            have e0 : (((wCount (f, b) k).toNat : Nat) : Int) = wCount (f, b) k := Int.toNat_of_nonneg (cnt_nn _ _)
            rw [wEach_len, e0] at cM
            have hcov := cover_calls f b k
            have hinn := inner_calls f b k
            have hcou := count_calls f b k
            have hali := aligned_calls (wCover (f, b) k).1 (wCover (f, b) k).2 k
            rw [e3] at hali
            have e5 : wCount (f, b) k = 0 ∨ wCount (f, b) k ≠ 0 := by omega
            have hend : ((f == b) = true ∧ (wCount (f, b) k == 0) = true) ∨ ((f == b) = false ∧ decide (f < b) = true ∧ decide (b ≤ lastOf (wEach (f, b) k (wCount (f, b) k).toNat)) = true ∧ decide ((wCover (f, b) k).1 ≤ f) = true ∧ ((wCover (f, b) k).2 == lastOf (wEach (f, b) k (wCount (f, b) k).toNat)) = true) := by
              rcases e4 with ⟨h1, h2⟩ | ⟨h1, h2, h3, h4, h5⟩
              · left; exact ⟨by simp [h1], by rw [beq_iff_eq]; omega⟩
              · right; exact ⟨by rw [beq_eq_false_iff_ne]; omega, decide_eq_true h1, decide_eq_true h3, decide_eq_true h4, by rw [beq_iff_eq]; exact h5⟩
            have i1 : decide ((wInner (f, b) k).1 < f) = false := decide_eq_false (by omega)
            have i2 : decide (b < (wInner (f, b) k).2) = false := decide_eq_false (by omega)
            have i1' : ¬ (wInner (f, b) k).1 < f := by omega
            have i2' : ¬ b < (wInner (f, b) k).2 := by omega
            clear e1 e2 e3 e4 e0 e5
            generalize lastOf (wEach (f, b) k (wCount (f, b) k).toNat) = Lst at *
            generalize wCount (f, b) k = C at *
            generalize wInner (f, b) k = inn at *
            generalize wCover (f, b) k = cov at *
            obtain ⟨v1, v2⟩ := cov
            obtain ⟨u1, u2⟩ := inn
            simp only at hcov hinn hali hend i1 i2 i1' i2'
            have Hcov := Lib.hid hcov; have Hinn := Lib.hid hinn; have Hcou := Lib.hid hcou; have Hali := Lib.hid hali
            clear hcov hinn hcou hali
            have hDl := (Array.getElem?_eq_some_iff.1 hK).1
            have hD0 : w.heap.size ≤ D := by have := hG.size; omega
            have hRD : w.heap.size + 1 ≠ D := by omega
            clear hM hL hKb hR bR2 bK bM bL bS bT c0 c1 hst hWs hsz hcb
            go_wp2_with fail
            refine (Hcov.out _).mono ?_
            rintro e wa ⟨rfl, hb1⟩
            have ga := hb1.al (.cells #[.int .i64 v1, .int .i64 v2] 26)
            have va0 : (wa.alloc (.cells #[.int .i64 v1, .int .i64 v2] 26)).cell? ⟨wa.heap.size, 0, none⟩ = some (.int .i64 v1) := by simp
            have va1 : (wa.alloc (.cells #[.int .i64 v1, .int .i64 v2] 26)).cell? ⟨wa.heap.size, 1, none⟩ = some (.int .i64 v2) := by simp
            replace cM := keepc ga cM; replace cL := keepc ga cL; replace cK := keepc ga cK; replace s0 := keepc ga s0; replace s1 := keepc ga s1
            have hA17 : w.heap.size + 1 < wa.heap.size := by have := hb1.size; omega
            clear hb1
            go_wp2_with fail
            generalize wa.heap.size = A17 at *
            generalize wa.alloc (.cells #[.int .i64 v1, .int .i64 v2] 26) = Wa at *
            refine (Hinn.out _).mono ?_
            rintro e wb ⟨rfl, hb1⟩
            have gb := hb1.al (.cells #[.int .i64 u1, .int .i64 u2] 26)
            have vb0 : (wb.alloc (.cells #[.int .i64 u1, .int .i64 u2] 26)).cell? ⟨wb.heap.size, 0, none⟩ = some (.int .i64 u1) := by simp
            have vb1 : (wb.alloc (.cells #[.int .i64 u1, .int .i64 u2] 26)).cell? ⟨wb.heap.size, 1, none⟩ = some (.int .i64 u2) := by simp
            replace cM := keepc gb cM; replace cL := keepc gb cL; replace cK := keepc gb cK; replace s0 := keepc gb s0; replace s1 := keepc gb s1; replace va0 := keepc gb va0; replace va1 := keepc gb va1
            replace gb := ga.tr gb
            clear hb1 ga
            go_wp2_with fail
            generalize wb.heap.size = B18 at *
            generalize wb.alloc (.cells #[.int .i64 u1, .int .i64 u2] 26) = Wb at *
            refine (Hali.out _).mono ?_
            rintro e wd ⟨rfl, hb1⟩
            replace cM := keepc hb1 cM; replace cL := keepc hb1 cL; replace cK := keepc hb1 cK; replace s0 := keepc hb1 s0; replace s1 := keepc hb1 s1; replace va0 := keepc hb1 va0; replace va1 := keepc hb1 va1
            replace gb := gb.tr hb1
            clear hb1
            go_wp2_with fail
            have hwd := gb.size
            refine wp_region_noPanic ?_
            refine wp_region_held_drew (S := fun w' => w'.cell? ⟨V + 1, 0, none⟩ = some (.int .i64 C) ∧ w'.cell? ⟨V + 1 + 1, 0, none⟩ = some (.int .i64 Lst) ∧ w'.cell? ⟨V, 0, none⟩ = some (.int .i64 k) ∧ w'.cell? ⟨S, 0, none⟩ = some (.int .i64 f) ∧ w'.cell? ⟨S, 1, none⟩ = some (.int .i64 b) ∧ w'.cell? ⟨A17, 0, none⟩ = some (.int .i64 v1) ∧ w'.cell? ⟨A17, 1, none⟩ = some (.int .i64 v2)) (by kernel_rfl) ⟨cM, cL, cK, s0, s1, va0, va1⟩ (fun hHeld => ?_)
            rcases hend with ⟨j1, j2⟩ | ⟨j1, j2, j3, j4, j5⟩
            all_goals
              simp only [List.size_toArray, List.length_cons, List.length_nil, Nat.reduceAdd]
              refine wpAnyH_take (i := 0) (oi := ?_) (v := ?_) ?_ (by kernel_rfl) (by kernel_rfl) (by kernel_rfl) ?_ ?_ (by assumption) ?_; rotate_left 2; (focus (simp only [List.getElem?_toArray, List.getElem?_cons_succ, List.getElem?_cons_zero]; rfl)); (focus (exact fun _ _ _ h => h)); first | (focus (refine Or.inl ⟨by rfl, ?_⟩; intro w hSw; (try dsimp only at hSw); go_simp; (try with_reducible rfl))) | (focus (refine Or.inr ⟨by rfl, ?_⟩; rfl)) | fail "op 0"
              simp only [Act.put, List.setIfInBounds_toArray, List.set_cons_zero, List.set_cons_succ]
              refine wpAnyH_take (i := 1) (oi := ?_) (v := ?_) ?_ (by kernel_rfl) (by kernel_rfl) (by kernel_rfl) ?_ ?_ (by assumption) ?_; rotate_left 2; (focus (simp only [List.getElem?_toArray, List.getElem?_cons_succ, List.getElem?_cons_zero]; rfl)); (focus (exact fun _ _ _ h => h)); first | (focus (refine Or.inl ⟨by rfl, ?_⟩; intro w hSw; (try dsimp only at hSw); go_simp; (try with_reducible rfl))) | (focus (refine Or.inr ⟨by rfl, ?_⟩; rfl)) | fail "op 1"
              simp only [Act.put, List.setIfInBounds_toArray, List.set_cons_zero, List.set_cons_succ]
              refine wpAnyH_take (i := 2) (oi := ?_) (v := ?_) ?_ (by kernel_rfl) (by kernel_rfl) (by kernel_rfl) ?_ ?_ (by assumption) ?_; rotate_left 2; (focus (simp only [List.getElem?_toArray, List.getElem?_cons_succ, List.getElem?_cons_zero]; rfl)); (focus (exact fun _ _ _ h => h)); first | (focus (refine Or.inl ⟨by rfl, ?_⟩; intro w hSw; (try dsimp only at hSw); go_simp; (try with_reducible rfl))) | (focus (refine Or.inr ⟨by rfl, ?_⟩; rfl)) | fail "op 2"
              simp only [Act.put, List.setIfInBounds_toArray, List.set_cons_zero, List.set_cons_succ]
              refine wpAnyH_ready (rs := [3]) (by kernel_rfl) (by simp) ?_
              refine AllReadyH.cons (o := ?_) ?_ (fun K hK => ?_) AllReadyH.nil
              rotate_left
              focus (simp only [List.getElem?_toArray, List.getElem?_cons_succ, List.getElem?_cons_zero]; rfl)
              go_simp
              go_at_call 32
              refine (Hcou.out _).mono ?_
              rintro e wf ⟨rfl, hb⟩
              have hgg : Gr W wf := (gb.dr).tr hb
              refine hK.out _ _ ⟨keepc hb hHeld.1, keepc hb hHeld.2.1, keepc hb hHeld.2.2.1, keepc hb hHeld.2.2.2.1, keepc hb hHeld.2.2.2.2.1, keepc hb hHeld.2.2.2.2.2.1, keepc hb hHeld.2.2.2.2.2.2⟩ (fun hHeld2 => ?_)
              clear hK K
              try simp only [Act.put, List.setIfInBounds_toArray, List.set_cons_zero, List.set_cons_succ]
              have cR2 := keepc hgg cR
              have fR2 : wf.frozen? ⟨w.heap.size + 1, 0, none⟩ = false := (hgg.frozen (p := ⟨w.heap.size + 1, 0, none⟩) hRl).trans fR
              refine wpAnyH_take (i := 4) (oi := ?_) (v := ?_) ?_ (by kernel_rfl) (by kernel_rfl) (by kernel_rfl) ?_ ?_ (by assumption) ?_; rotate_left 2; (focus (simp only [List.getElem?_toArray, List.getElem?_cons_succ, List.getElem?_cons_zero]; rfl)); (focus (exact fun _ _ _ h => h)); first | (focus (refine Or.inl ⟨by rfl, ?_⟩; intro w hSw; (try dsimp only at hSw); go_simp; (try with_reducible rfl))) | (focus (refine Or.inr ⟨by rfl, ?_⟩; rfl)) | fail "op 4"
              try simp only [Act.put, List.setIfInBounds_toArray, List.set_cons_zero, List.set_cons_succ]
              refine wpAnyH_take (i := 5) (oi := ?_) (v := ?_) ?_ (by kernel_rfl) (by kernel_rfl) (by kernel_rfl) ?_ ?_ (by assumption) ?_; rotate_left 2; (focus (simp only [List.getElem?_toArray, List.getElem?_cons_succ, List.getElem?_cons_zero]; rfl)); (focus (exact fun _ _ _ h => h)); first | (focus (refine Or.inl ⟨by rfl, ?_⟩; intro w hSw; (try dsimp only at hSw); go_simp; (try with_reducible rfl))) | (focus (refine Or.inr ⟨by rfl, ?_⟩; rfl)) | fail "op 5"
              try simp only [Act.put, List.setIfInBounds_toArray, List.set_cons_zero, List.set_cons_succ]
              refine wpAnyH_take (i := 6) (oi := ?_) (v := ?_) ?_ (by kernel_rfl) (by kernel_rfl) (by kernel_rfl) ?_ ?_ (by assumption) ?_; rotate_left 2; (focus (simp only [List.getElem?_toArray, List.getElem?_cons_succ, List.getElem?_cons_zero]; rfl)); (focus (exact fun _ _ _ h => h)); first | (focus (refine Or.inl ⟨by rfl, ?_⟩; intro w hSw; (try dsimp only at hSw); go_simp; (try with_reducible rfl))) | (focus (refine Or.inr ⟨by rfl, ?_⟩; rfl)) | fail "op 6"
              try simp only [Act.put, List.setIfInBounds_toArray, List.set_cons_zero, List.set_cons_succ]
              refine wpAnyH_take (i := 7) (oi := ?_) (v := ?_) ?_ (by kernel_rfl) (by kernel_rfl) (by kernel_rfl) ?_ ?_ (by assumption) ?_; rotate_left 2; (focus (simp only [List.getElem?_toArray, List.getElem?_cons_succ, List.getElem?_cons_zero]; rfl)); (focus (exact fun _ _ _ h => h)); first | (focus (refine Or.inl ⟨by rfl, ?_⟩; intro w hSw; (try dsimp only at hSw); go_simp; (try with_reducible rfl))) | (focus (refine Or.inr ⟨by rfl, ?_⟩; rfl)) | fail "op 7"
              try simp only [Act.put, List.setIfInBounds_toArray, List.set_cons_zero, List.set_cons_succ]
              refine wpAnyH_take (i := 8) (oi := ?_) (v := ?_) ?_ (by kernel_rfl) (by kernel_rfl) (by kernel_rfl) ?_ ?_ (by assumption) ?_; rotate_left 2; (focus (simp only [List.getElem?_toArray, List.getElem?_cons_succ, List.getElem?_cons_zero]; rfl)); (focus (exact fun _ _ _ h => h)); first | (focus (refine Or.inl ⟨by rfl, ?_⟩; intro w hSw; (try dsimp only at hSw); go_simp; (try with_reducible rfl))) | (focus (refine Or.inr ⟨by rfl, ?_⟩; rfl)) | fail "op 8"
              try simp only [Act.put, List.setIfInBounds_toArray, List.set_cons_zero, List.set_cons_succ]
              refine wpAnyH_take (i := 9) (oi := ?_) (v := ?_) ?_ (by kernel_rfl) (by kernel_rfl) (by kernel_rfl) ?_ ?_ (by assumption) ?_; rotate_left 2; (focus (simp only [List.getElem?_toArray, List.getElem?_cons_succ, List.getElem?_cons_zero]; rfl)); (focus (exact fun _ _ _ h => h)); first | (focus (refine Or.inl ⟨by rfl, ?_⟩; intro w hSw; (try dsimp only at hSw); go_simp; (try with_reducible rfl))) | (focus (refine Or.inr ⟨by rfl, ?_⟩; rfl)) | fail "op 9"
              try simp only [Act.put, List.setIfInBounds_toArray, List.set_cons_zero, List.set_cons_succ]
              refine wpAnyH_take (i := 10) (oi := ?_) (v := ?_) ?_ (by kernel_rfl) (by kernel_rfl) (by kernel_rfl) ?_ ?_ (by assumption) ?_; rotate_left 2; (focus (simp only [List.getElem?_toArray, List.getElem?_cons_succ, List.getElem?_cons_zero]; rfl)); (focus (exact fun _ _ _ h => h)); first | (focus (refine Or.inl ⟨by rfl, ?_⟩; intro w hSw; (try dsimp only at hSw); go_simp; (try with_reducible rfl))) | (focus (refine Or.inr ⟨by rfl, ?_⟩; rfl)) | fail "op 10"
              try simp only [Act.put, List.setIfInBounds_toArray, List.set_cons_zero, List.set_cons_succ]
              refine wpAnyH_take (i := 11) (oi := ?_) (v := ?_) ?_ (by kernel_rfl) (by kernel_rfl) (by kernel_rfl) ?_ ?_ (by assumption) ?_; rotate_left 2; (focus (simp only [List.getElem?_toArray, List.getElem?_cons_succ, List.getElem?_cons_zero]; rfl)); (focus (exact fun _ _ _ h => h)); first | (focus (refine Or.inl ⟨by rfl, ?_⟩; intro w hSw; (try dsimp only at hSw); go_simp; (try with_reducible rfl))) | (focus (refine Or.inr ⟨by rfl, ?_⟩; rfl)) | fail "op 11"
              try simp only [Act.put, List.setIfInBounds_toArray, List.set_cons_zero, List.set_cons_succ]
              refine wpAnyH_take (i := 12) (oi := ?_) (v := ?_) ?_ (by kernel_rfl) (by kernel_rfl) (by kernel_rfl) ?_ ?_ (by assumption) ?_; rotate_left 2; (focus (simp only [List.getElem?_toArray, List.getElem?_cons_succ, List.getElem?_cons_zero]; rfl)); (focus (exact fun _ _ _ h => h)); first | (focus (refine Or.inl ⟨by rfl, ?_⟩; intro w hSw; (try dsimp only at hSw); go_simp; (try with_reducible rfl))) | (focus (refine Or.inr ⟨by rfl, ?_⟩; rfl)) | fail "op 12"
              try simp only [Act.put, List.setIfInBounds_toArray, List.set_cons_zero, List.set_cons_succ]
              refine wpAnyH_take (i := 13) (oi := ?_) (v := ?_) ?_ (by kernel_rfl) (by kernel_rfl) (by kernel_rfl) ?_ ?_ (by assumption) ?_; rotate_left 2; (focus (simp only [List.getElem?_toArray, List.getElem?_cons_succ, List.getElem?_cons_zero]; rfl)); (focus (exact fun _ _ _ h => h)); first | (focus (refine Or.inl ⟨by rfl, ?_⟩; intro w hSw; (try dsimp only at hSw); go_simp; (try with_reducible rfl))) | (focus (refine Or.inr ⟨by rfl, ?_⟩; rfl)) | fail "op 13"
              try simp only [Act.put, List.setIfInBounds_toArray, List.set_cons_zero, List.set_cons_succ]
              refine wpAnyH_take (i := 14) (oi := ?_) (v := ?_) ?_ (by kernel_rfl) (by kernel_rfl) (by kernel_rfl) ?_ ?_ (by assumption) ?_; rotate_left 2; (focus (simp only [List.getElem?_toArray, List.getElem?_cons_succ, List.getElem?_cons_zero]; rfl)); (focus (exact fun _ _ _ h => h)); first | (focus (refine Or.inl ⟨by rfl, ?_⟩; intro w hSw; (try dsimp only at hSw); go_simp; (try with_reducible rfl))) | (focus (refine Or.inr ⟨by rfl, ?_⟩; rfl)) | fail "op 14"
              try simp only [Act.put, List.setIfInBounds_toArray, List.set_cons_zero, List.set_cons_succ]
              refine wpAnyH_take (i := 15) (oi := ?_) (v := ?_) ?_ (by kernel_rfl) (by kernel_rfl) (by kernel_rfl) ?_ ?_ (by assumption) ?_; rotate_left 2; (focus (simp only [List.getElem?_toArray, List.getElem?_cons_succ, List.getElem?_cons_zero]; rfl)); (focus (exact fun _ _ _ h => h)); first | (focus (refine Or.inl ⟨by rfl, ?_⟩; intro w hSw; (try dsimp only at hSw); go_simp; (try with_reducible rfl))) | (focus (refine Or.inr ⟨by rfl, ?_⟩; rfl)) | fail "op 15"
              try simp only [Act.put, List.setIfInBounds_toArray, List.set_cons_zero, List.set_cons_succ]
              refine wpAnyH_take (i := 16) (oi := ?_) (v := ?_) ?_ (by kernel_rfl) (by kernel_rfl) (by kernel_rfl) ?_ ?_ (by assumption) ?_; rotate_left 2; (focus (simp only [List.getElem?_toArray, List.getElem?_cons_succ, List.getElem?_cons_zero]; rfl)); (focus (exact fun _ _ _ h => h)); first | (focus (refine Or.inl ⟨by rfl, ?_⟩; intro w hSw; (try dsimp only at hSw); go_simp; (try with_reducible rfl))) | (focus (refine Or.inr ⟨by rfl, ?_⟩; rfl)) | fail "op 16"
              try simp only [Act.put, List.setIfInBounds_toArray, List.set_cons_zero, List.set_cons_succ]
              refine wpAnyH_take (i := 17) (oi := ?_) (v := ?_) ?_ (by kernel_rfl) (by kernel_rfl) (by kernel_rfl) ?_ ?_ (by assumption) ?_; rotate_left 2; (focus (simp only [List.getElem?_toArray, List.getElem?_cons_succ, List.getElem?_cons_zero]; rfl)); (focus (exact fun _ _ _ h => h)); first | (focus (refine Or.inl ⟨by rfl, ?_⟩; intro w hSw; (try dsimp only at hSw); go_simp; (try with_reducible rfl))) | (focus (refine Or.inr ⟨by rfl, ?_⟩; rfl)) | fail "op 17"
              try simp only [Act.put, List.setIfInBounds_toArray, List.set_cons_zero, List.set_cons_succ]
              refine wpAnyH_take (i := 18) (oi := ?_) (v := ?_) ?_ (by kernel_rfl) (by kernel_rfl) (by kernel_rfl) ?_ ?_ (by assumption) ?_; rotate_left 2; (focus (simp only [List.getElem?_toArray, List.getElem?_cons_succ, List.getElem?_cons_zero]; rfl)); (focus (exact fun _ _ _ h => h)); first | (focus (refine Or.inl ⟨by rfl, ?_⟩; intro w hSw; (try dsimp only at hSw); go_simp; (try with_reducible rfl))) | (focus (refine Or.inr ⟨by rfl, ?_⟩; rfl)) | fail "op 18"
              try simp only [Act.put, List.setIfInBounds_toArray, List.set_cons_zero, List.set_cons_succ]
              refine wpAnyH_take (i := 19) (oi := ?_) (v := ?_) ?_ (by kernel_rfl) (by kernel_rfl) (by kernel_rfl) ?_ ?_ (by assumption) ?_; rotate_left 2; (focus (simp only [List.getElem?_toArray, List.getElem?_cons_succ, List.getElem?_cons_zero]; rfl)); (focus (exact fun _ _ _ h => h)); first | (focus (refine Or.inl ⟨by rfl, ?_⟩; intro w hSw; (try dsimp only at hSw); go_simp; (try with_reducible rfl))) | (focus (refine Or.inr ⟨by rfl, ?_⟩; rfl)) | fail "op 19"
              try simp only [Act.put, List.setIfInBounds_toArray, List.set_cons_zero, List.set_cons_succ]
              refine wpAnyH_take (i := 20) (oi := ?_) (v := ?_) ?_ (by kernel_rfl) (by kernel_rfl) (by kernel_rfl) ?_ ?_ (by assumption) ?_; rotate_left 2; (focus (simp only [List.getElem?_toArray, List.getElem?_cons_succ, List.getElem?_cons_zero]; rfl)); (focus (exact fun _ _ _ h => h)); first | (focus (refine Or.inl ⟨by rfl, ?_⟩; intro w hSw; (try dsimp only at hSw); go_simp; (try with_reducible rfl))) | (focus (refine Or.inr ⟨by rfl, ?_⟩; rfl)) | fail "op 20"
              try simp only [Act.put, List.setIfInBounds_toArray, List.set_cons_zero, List.set_cons_succ]
              refine wpAnyH_take (i := 21) (oi := ?_) (v := ?_) ?_ (by kernel_rfl) (by kernel_rfl) (by kernel_rfl) ?_ ?_ (by assumption) ?_; rotate_left 2; (focus (simp only [List.getElem?_toArray, List.getElem?_cons_succ, List.getElem?_cons_zero]; rfl)); (focus (exact fun _ _ _ h => h)); first | (focus (refine Or.inl ⟨by rfl, ?_⟩; intro w hSw; (try dsimp only at hSw); go_simp; (try with_reducible rfl))) | (focus (refine Or.inr ⟨by rfl, ?_⟩; rfl)) | fail "op 21"
              try simp only [Act.put, List.setIfInBounds_toArray, List.set_cons_zero, List.set_cons_succ]
              refine wpAnyH_take (i := 22) (oi := ?_) (v := ?_) ?_ (by kernel_rfl) (by kernel_rfl) (by kernel_rfl) ?_ ?_ (by assumption) ?_; rotate_left 2; (focus (simp only [List.getElem?_toArray, List.getElem?_cons_succ, List.getElem?_cons_zero]; rfl)); (focus (exact fun _ _ _ h => h)); first | (focus (refine Or.inl ⟨by rfl, ?_⟩; intro w hSw; (try dsimp only at hSw); go_simp; (try with_reducible rfl))) | (focus (refine Or.inr ⟨by rfl, ?_⟩; rfl)) | fail "op 22"
              try simp only [Act.put, List.setIfInBounds_toArray, List.set_cons_zero, List.set_cons_succ]
              refine wpAnyH_take (i := 23) (oi := ?_) (v := ?_) ?_ (by kernel_rfl) (by kernel_rfl) (by kernel_rfl) ?_ ?_ (by assumption) ?_; rotate_left 2; (focus (simp only [List.getElem?_toArray, List.getElem?_cons_succ, List.getElem?_cons_zero]; rfl)); (focus (exact fun _ _ _ h => h)); first | (focus (refine Or.inl ⟨by rfl, ?_⟩; intro w hSw; (try dsimp only at hSw); go_simp; (try with_reducible rfl))) | (focus (refine Or.inr ⟨by rfl, ?_⟩; rfl)) | fail "op 23"
              try simp only [Act.put, List.setIfInBounds_toArray, List.set_cons_zero, List.set_cons_succ]
              refine wpAnyH_take (i := 24) (oi := ?_) (v := ?_) ?_ (by kernel_rfl) (by kernel_rfl) (by kernel_rfl) ?_ ?_ (by assumption) ?_; rotate_left 2; (focus (simp only [List.getElem?_toArray, List.getElem?_cons_succ, List.getElem?_cons_zero]; rfl)); (focus (exact fun _ _ _ h => h)); first | (focus (refine Or.inl ⟨by rfl, ?_⟩; intro w hSw; (try dsimp only at hSw); go_simp; (try with_reducible rfl))) | (focus (refine Or.inr ⟨by rfl, ?_⟩; rfl)) | fail "op 24"
              try simp only [Act.put, List.setIfInBounds_toArray, List.set_cons_zero, List.set_cons_succ]
              refine wpAnyH_take (i := 25) (oi := ?_) (v := ?_) ?_ (by kernel_rfl) (by kernel_rfl) (by kernel_rfl) ?_ ?_ (by assumption) ?_; rotate_left 2; (focus (simp only [List.getElem?_toArray, List.getElem?_cons_succ, List.getElem?_cons_zero]; rfl)); (focus (exact fun _ _ _ h => h)); first | (focus (refine Or.inl ⟨by rfl, ?_⟩; intro w hSw; (try dsimp only at hSw); go_simp; (try with_reducible rfl))) | (focus (refine Or.inr ⟨by rfl, ?_⟩; rfl)) | fail "op 25"
              try simp only [Act.put, List.setIfInBounds_toArray, List.set_cons_zero, List.set_cons_succ]
              refine wpAnyH_take (i := 26) (oi := ?_) (v := ?_) ?_ (by kernel_rfl) (by kernel_rfl) (by kernel_rfl) ?_ ?_ (by assumption) ?_; rotate_left 2; (focus (simp only [List.getElem?_toArray, List.getElem?_cons_succ, List.getElem?_cons_zero]; rfl)); (focus (exact fun _ _ _ h => h)); first | (focus (refine Or.inl ⟨by rfl, ?_⟩; intro w hSw; (try dsimp only at hSw); go_simp; (try with_reducible rfl))) | (focus (refine Or.inr ⟨by rfl, ?_⟩; rfl)) | fail "op 26"
              try simp only [Act.put, List.setIfInBounds_toArray, List.set_cons_zero, List.set_cons_succ]
              refine wpAnyH_take (i := 27) (oi := ?_) (v := ?_) ?_ (by kernel_rfl) (by kernel_rfl) (by kernel_rfl) ?_ ?_ (by assumption) ?_; rotate_left 2; (focus (simp only [List.getElem?_toArray, List.getElem?_cons_succ, List.getElem?_cons_zero]; rfl)); (focus (exact fun _ _ _ h => h)); first | (focus (refine Or.inl ⟨by rfl, ?_⟩; intro w hSw; (try dsimp only at hSw); go_simp; (try with_reducible rfl))) | (focus (refine Or.inr ⟨by rfl, ?_⟩; rfl)) | fail "op 27"
              try simp only [Act.put, List.setIfInBounds_toArray, List.set_cons_zero, List.set_cons_succ]
              refine wpAnyH_take (i := 28) (oi := ?_) (v := ?_) ?_ (by kernel_rfl) (by kernel_rfl) (by kernel_rfl) ?_ ?_ (by assumption) ?_; rotate_left 2; (focus (simp only [List.getElem?_toArray, List.getElem?_cons_succ, List.getElem?_cons_zero]; rfl)); (focus (exact fun _ _ _ h => h)); first | (focus (refine Or.inl ⟨by rfl, ?_⟩; intro w hSw; (try dsimp only at hSw); go_simp; (try with_reducible rfl))) | (focus (refine Or.inr ⟨by rfl, ?_⟩; rfl)) | fail "op 28"
              try simp only [Act.put, List.setIfInBounds_toArray, List.set_cons_zero, List.set_cons_succ]
              refine wpAnyH_take (i := 29) (oi := ?_) (v := ?_) ?_ (by kernel_rfl) (by kernel_rfl) (by kernel_rfl) ?_ ?_ (by assumption) ?_; rotate_left 2; (focus (simp only [List.getElem?_toArray, List.getElem?_cons_succ, List.getElem?_cons_zero]; rfl)); (focus (exact fun _ _ _ h => h)); first | (focus (refine Or.inl ⟨by rfl, ?_⟩; intro w hSw; (try dsimp only at hSw); go_simp; (try with_reducible rfl))) | (focus (refine Or.inr ⟨by rfl, ?_⟩; rfl)) | fail "op 29"
              try simp only [Act.put, List.setIfInBounds_toArray, List.set_cons_zero, List.set_cons_succ]
              refine wpAnyH_take (i := 30) (oi := ?_) (v := ?_) ?_ (by kernel_rfl) (by kernel_rfl) (by kernel_rfl) ?_ ?_ (by assumption) ?_; rotate_left 2; (focus (simp only [List.getElem?_toArray, List.getElem?_cons_succ, List.getElem?_cons_zero]; rfl)); (focus (exact fun _ _ _ h => h)); first | (focus (refine Or.inl ⟨by rfl, ?_⟩; intro w hSw; (try dsimp only at hSw); go_simp; (try with_reducible rfl))) | (focus (refine Or.inr ⟨by rfl, ?_⟩; rfl)) | fail "op 30"
              try simp only [Act.put, List.setIfInBounds_toArray, List.set_cons_zero, List.set_cons_succ]
              refine wpAnyH_take (i := 31) (oi := ?_) (v := ?_) ?_ (by kernel_rfl) (by kernel_rfl) (by kernel_rfl) ?_ ?_ (by assumption) ?_; rotate_left 2; (focus (simp only [List.getElem?_toArray, List.getElem?_cons_succ, List.getElem?_cons_zero]; rfl)); (focus (exact fun _ _ _ h => h)); first | (focus (refine Or.inl ⟨by rfl, ?_⟩; intro w hSw; (try dsimp only at hSw); go_simp; (try with_reducible rfl))) | (focus (refine Or.inr ⟨by rfl, ?_⟩; rfl)) | fail "op 31"
              try simp only [Act.put, List.setIfInBounds_toArray, List.set_cons_zero, List.set_cons_succ]
              refine wpAnyH_take (i := 32) (oi := ?_) (v := ?_) ?_ (by kernel_rfl) (by kernel_rfl) (by kernel_rfl) ?_ ?_ (by assumption) ?_; rotate_left 2; (focus (simp only [List.getElem?_toArray, List.getElem?_cons_succ, List.getElem?_cons_zero]; rfl)); (focus (exact fun _ _ _ h => h)); first | (focus (refine Or.inl ⟨by rfl, ?_⟩; intro w hSw; (try dsimp only at hSw); go_simp; (try with_reducible rfl))) | (focus (refine Or.inr ⟨by rfl, ?_⟩; rfl)) | fail "op 32"
              try simp only [Act.put, List.setIfInBounds_toArray, List.set_cons_zero, List.set_cons_succ]
              refine wpAnyH_take (i := 33) (oi := ?_) (v := ?_) ?_ (by kernel_rfl) (by kernel_rfl) (by kernel_rfl) ?_ ?_ (by assumption) ?_; rotate_left 2; (focus (simp only [List.getElem?_toArray, List.getElem?_cons_succ, List.getElem?_cons_zero]; rfl)); (focus (exact fun _ _ _ h => h)); first | (focus (refine Or.inl ⟨by rfl, ?_⟩; intro w hSw; (try dsimp only at hSw); go_simp; (try with_reducible rfl))) | (focus (refine Or.inr ⟨by rfl, ?_⟩; rfl)) | fail "op 33"
              try simp only [Act.put, List.setIfInBounds_toArray, List.set_cons_zero, List.set_cons_succ]
              refine wpAnyH_take (i := 34) (oi := ?_) (v := ?_) ?_ (by kernel_rfl) (by kernel_rfl) (by kernel_rfl) ?_ ?_ (by assumption) ?_; rotate_left 2; (focus (simp only [List.getElem?_toArray, List.getElem?_cons_succ, List.getElem?_cons_zero]; rfl)); (focus (exact fun _ _ _ h => h)); first | (focus (refine Or.inl ⟨by rfl, ?_⟩; intro w hSw; (try dsimp only at hSw); go_simp; (try with_reducible rfl))) | (focus (refine Or.inr ⟨by rfl, ?_⟩; rfl)) | fail "op 34"
              try simp only [Act.put, List.setIfInBounds_toArray, List.set_cons_zero, List.set_cons_succ]
              refine wpAnyH_take (i := 35) (oi := ?_) (v := ?_) ?_ (by kernel_rfl) (by kernel_rfl) (by kernel_rfl) ?_ ?_ (by assumption) ?_; rotate_left 2; (focus (simp only [List.getElem?_toArray, List.getElem?_cons_succ, List.getElem?_cons_zero]; rfl)); (focus (exact fun _ _ _ h => h)); first | (focus (refine Or.inl ⟨by rfl, ?_⟩; intro w hSw; (try dsimp only at hSw); go_simp; (try with_reducible rfl))) | (focus (refine Or.inr ⟨by rfl, ?_⟩; rfl)) | fail "op 35"
              try simp only [Act.put, List.setIfInBounds_toArray, List.set_cons_zero, List.set_cons_succ]
              refine wpAnyH_take (i := 36) (oi := ?_) (v := ?_) ?_ (by kernel_rfl) (by kernel_rfl) (by kernel_rfl) ?_ ?_ (by assumption) ?_; rotate_left 2; (focus (simp only [List.getElem?_toArray, List.getElem?_cons_succ, List.getElem?_cons_zero]; rfl)); (focus (exact fun _ _ _ h => h)); first | (focus (refine Or.inl ⟨by rfl, ?_⟩; intro w hSw; (try dsimp only at hSw); go_simp; (try with_reducible rfl))) | (focus (refine Or.inr ⟨by rfl, ?_⟩; rfl)) | fail "op 36"
              try simp only [Act.put, List.setIfInBounds_toArray, List.set_cons_zero, List.set_cons_succ]
              refine wpAnyH_take (i := 37) (oi := ?_) (v := ?_) ?_ (by kernel_rfl) (by kernel_rfl) (by kernel_rfl) ?_ ?_ (by assumption) ?_; rotate_left 2; (focus (simp only [List.getElem?_toArray, List.getElem?_cons_succ, List.getElem?_cons_zero]; rfl)); (focus (exact fun _ _ _ h => h)); first | (focus (refine Or.inl ⟨by rfl, ?_⟩; intro w hSw; (try dsimp only at hSw); go_simp; (try with_reducible rfl))) | (focus (refine Or.inr ⟨by rfl, ?_⟩; rfl)) | fail "op 37"
              try simp only [Act.put, List.setIfInBounds_toArray, List.set_cons_zero, List.set_cons_succ]
              refine wpAnyH_take (i := 38) (oi := ?_) (v := ?_) ?_ (by kernel_rfl) (by kernel_rfl) (by kernel_rfl) ?_ ?_ (by assumption) ?_; rotate_left 2; (focus (simp only [List.getElem?_toArray, List.getElem?_cons_succ, List.getElem?_cons_zero]; rfl)); (focus (exact fun _ _ _ h => h)); first | (focus (refine Or.inl ⟨by rfl, ?_⟩; intro w hSw; (try dsimp only at hSw); go_simp; (try with_reducible rfl))) | (focus (refine Or.inr ⟨by rfl, ?_⟩; rfl)) | fail "op 38"
              try simp only [Act.put, List.setIfInBounds_toArray, List.set_cons_zero, List.set_cons_succ]
              refine wpAnyH_take (i := 39) (oi := ?_) (v := ?_) ?_ (by kernel_rfl) (by kernel_rfl) (by kernel_rfl) ?_ ?_ (by assumption) ?_; rotate_left 2; (focus (simp only [List.getElem?_toArray, List.getElem?_cons_succ, List.getElem?_cons_zero]; rfl)); (focus (exact fun _ _ _ h => h)); first | (focus (refine Or.inl ⟨by rfl, ?_⟩; intro w hSw; (try dsimp only at hSw); go_simp; (try with_reducible rfl))) | (focus (refine Or.inr ⟨by rfl, ?_⟩; rfl)) | fail "op 39"
              try simp only [Act.put, List.setIfInBounds_toArray, List.set_cons_zero, List.set_cons_succ]
              refine wpAnyH_take (i := 40) (oi := ?_) (v := ?_) ?_ (by kernel_rfl) (by kernel_rfl) (by kernel_rfl) ?_ ?_ (by assumption) ?_; rotate_left 2; (focus (simp only [List.getElem?_toArray, List.getElem?_cons_succ, List.getElem?_cons_zero]; rfl)); (focus (exact fun _ _ _ h => h)); first | (focus (refine Or.inl ⟨by rfl, ?_⟩; intro w hSw; (try dsimp only at hSw); go_simp; (try with_reducible rfl))) | (focus (refine Or.inr ⟨by rfl, ?_⟩; rfl)) | fail "op 40"
              try simp only [Act.put, List.setIfInBounds_toArray, List.set_cons_zero, List.set_cons_succ]
              refine wpAnyH_take (i := 41) (oi := ?_) (v := ?_) ?_ (by kernel_rfl) (by kernel_rfl) (by kernel_rfl) ?_ ?_ (by assumption) ?_; rotate_left 2; (focus (simp only [List.getElem?_toArray, List.getElem?_cons_succ, List.getElem?_cons_zero]; rfl)); (focus (exact fun _ _ _ h => h)); first | (focus (refine Or.inl ⟨by rfl, ?_⟩; intro w hSw; (try dsimp only at hSw); go_simp; (try with_reducible rfl))) | (focus (refine Or.inr ⟨by rfl, ?_⟩; rfl)) | fail "op 41"
              try simp only [Act.put, List.setIfInBounds_toArray, List.set_cons_zero, List.set_cons_succ]
              refine wpAnyH_ready (rs := [42]) (by kernel_rfl) (by simp) ?_
              refine AllReadyH.cons (o := ?_) ?_ (fun K hK => ?_) AllReadyH.nil
              rotate_left
              focus (simp only [List.getElem?_toArray, List.getElem?_cons_succ, List.getElem?_cons_zero]; rfl)
              go_simp
              refine hK.out _ _ ⟨?_, ?_, ?_, ?_, ?_, ?_, ?_⟩ (fun hHeld3 => ?_)
              focus (rw [World.cell?_setCell_other _ _ _ _ (by first | (simp; done) | (simp; omega))]; exact hHeld2.1)
              focus (rw [World.cell?_setCell_other _ _ _ _ (by first | (simp; done) | (simp; omega))]; exact hHeld2.2.1)
              focus (rw [World.cell?_setCell_other _ _ _ _ (by first | (simp; done) | (simp; omega))]; exact hHeld2.2.2.1)
              focus (rw [World.cell?_setCell_other _ _ _ _ (by first | (simp; done) | (simp; omega))]; exact hHeld2.2.2.2.1)
              focus (rw [World.cell?_setCell_other _ _ _ _ (by first | (simp; done) | (simp; omega))]; exact hHeld2.2.2.2.2.1)
              focus (rw [World.cell?_setCell_other _ _ _ _ (by first | (simp; done) | (simp; omega))]; exact hHeld2.2.2.2.2.2.1)
              focus (rw [World.cell?_setCell_other _ _ _ _ (by first | (simp; done) | (simp; omega))]; exact hHeld2.2.2.2.2.2.2)
              clear hK K
              try simp only [Act.put, List.setIfInBounds_toArray, List.set_cons_zero, List.set_cons_succ]
              refine wpAnyH_done (by kernel_rfl) ?_ _
              refine NoPanic.normal ?_
              go_wp2_with fail
              have hKw : (wf.setCell ⟨w.heap.size + 1, 0, none⟩ (.bool true)).heap[D]? = some (.deferred (some [])) := by
                rw [Below.heap_setCell _ _ _ _ (by show D ≠ w.heap.size + 1; omega)]; exact (hgg.block D hDl).trans hK
              have cE : ∀ o', ((wf.setCell ⟨w.heap.size + 1, 0, none⟩ (.bool true)).putObj D o').cell? ⟨w.heap.size + 1, 0, none⟩ = some (.bool true) := fun o' => by
                have h0 := World.cell?_setCell_same wf ⟨w.heap.size + 1, 0, none⟩ (.bool true) cR2
                unfold World.cell? at h0 ⊢
                rw [World.putObj_heap_other (by show w.heap.size + 1 ≠ D; omega)]; exact h0
              refine ⟨by simp, .inl ⟨_, _, rfl, run_takeDeferred hKw, ?_⟩⟩
              have hBf : Below w.heap.size w (wf.setCell ⟨w.heap.size + 1, 0, none⟩ (.bool true)) := Below.setCell (hB.trans (hgg.mono hB.size)) (by show w.heap.size ≤ w.heap.size + 1; omega) _
              exact ⟨.bool true, by simp [results, Try.results6, go_sem, cE], rfl, hBf.trans (belowK_b (w := w) (Nat.le_refl _) _ D _ _ hD0 hKw rfl rfl)⟩
end Go.Proofs.Ytafdddakkenlaaa

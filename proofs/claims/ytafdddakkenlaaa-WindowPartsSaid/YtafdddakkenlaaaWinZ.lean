import Derived.RangeFuncNested
import Derived.RangeFuncBound
import Derived.RangeFuncCalls
import Derived.RangeFuncLeaves
import Derived.Shelf.Abstract
import Derived.Shelf.RegionOpen
import Derived.WalkKit
import Derived.OwnWalkIn
import Derived.TacticsInMore
import Derived.LoopNIn
import Derived.LoopIn
import Derived.Maps.AppendAt
import Derived.Test.YtafdddakkenlaaaWinY
namespace Go.Proofs.Ytafdddakkenlaaa
open Go.RowKit Go.Shelf
attribute [local go_sem] Oper.semAt_some

/-- The i-th window of a span. -/
def wT (s : Sp) (k : Int) (i : Nat) : Int := (wCover s k).1 + i * wWidth k
def wE (s : Sp) (k : Int) (i : Nat) : Sp := (wT s k i, mn (wT s k i + wWidth k) 1099511627777)
def wEach (s : Sp) (k : Int) (m : Nat) : List Sp := (List.range m).map (wE s k)
theorem wEach_succ (s : Sp) (k : Int) (m : Nat) : wEach s k (m + 1) = wEach s k m ++ [wE s k m] := by simp [wEach, List.range_succ]
theorem wEach_len (s : Sp) (k : Int) (m : Nat) : (wEach s k m).length = m := by simp [wEach]

theorem cover_mul {s : Sp} {k : Int} (h : (wCover s k).1 ≠ (wCover s k).2) : ∃ q : Int, 0 ≤ q ∧ (wCover s k).1 = q * wWidth k := by
  obtain ⟨a, b⟩ := s
  have hw := wCover_w h
  unfold wCover
  split
  · exact ⟨0, Int.le_refl _, by simp⟩
  · rename_i h5
    have hm : wMay (a, b) k = true := by cases hh : wMay (a, b) k <;> simp_all
    obtain ⟨b1, b2, b3, b4⟩ := wMay_t hm
    have hs : wStart a k = a / wWidth k * wWidth k := by unfold wStart; rw [if_neg (by have : a ≠ 1099511627777 := fun e => h5 (.inr e); omega)]
    have h0 : 0 ≤ a / wWidth k := Int.ediv_nonneg b1 (by omega)
    split <;> exact ⟨_, h0, hs⟩
theorem cnt_iff (s : Sp) (k : Int) (i : Nat) : (i : Int) < wCount s k ↔ wT s k i < (wCover s k).2 := by
  have hw := wWidth_bd k
  unfold wT
  by_cases h : (wCover s k).1 = (wCover s k).2
  · have : 0 ≤ (i : Int) * wWidth k := Int.mul_nonneg (by omega) (by omega)
    unfold wCount; rw [if_pos h]; omega
  · have hp := wCover_w h
    obtain ⟨q, _, hq⟩ := cover_mul h
    unfold wCount; rw [if_neg h, hq, Int.mul_ediv_cancel _ (by omega)]
    have e : q * wWidth k + i * wWidth k = (q + i) * wWidth k := by rw [Int.add_mul]
    rw [e]
    have := Int.le_ediv_iff_mul_le (a := q + i) (b := (wCover s k).2 - 1) hp
    constructor
    · intro h1; have := this.1 (by omega); omega
    · intro h1; have := this.2 (by omega); omega
theorem of_each {s : Sp} {k : Int} {i : Nat} (h : (i : Int) < wCount s k) : wOf (wT s k i) k = wE s k i := by
  have h1 := (cnt_iff s k i).1 h
  have hb := wCover_bd s k
  have hne : (wCover s k).1 ≠ (wCover s k).2 := by
    intro e; unfold wCount at h; rw [if_pos e] at h; omega
  obtain ⟨q, hq0, hq⟩ := cover_mul hne
  have hp := wCover_w hne
  have e : wT s k i = (q + i) * wWidth k := by unfold wT; rw [hq, Int.add_mul]
  have h0 : 0 ≤ wT s k i := by rw [e]; exact Int.mul_nonneg (by omega) (by omega)
  have hs : wStart (wT s k i) k = wT s k i := by
    unfold wStart; rw [if_neg (by omega), e, Int.mul_ediv_cancel _ (by omega)]
  unfold wOf; rw [hs, if_neg (by omega)]; rfl
theorem each_next {s : Sp} {k : Int} {i : Nat} (h : ((i + 1 : Nat) : Int) < wCount s k) : (wE s k i).2 = wT s k (i + 1) := by
  have h1 := (cnt_iff s k (i + 1)).1 h
  have hb := wCover_bd s k
  have e : wT s k (i + 1) = wT s k i + wWidth k := by unfold wT; push_cast; rw [Int.add_mul]; omega
  unfold wE; simp only; rw [mn_eq]; omega
theorem each_last {s : Sp} {k : Int} {i : Nat} (h : ¬ ((i + 1 : Nat) : Int) < wCount s k) : (wCover s k).2 ≤ (wE s k i).2 := by
  have h1 := mt (cnt_iff s k (i + 1)).2 h
  have hb := wCover_bd s k
  have e : wT s k (i + 1) = wT s k i + wWidth k := by unfold wT; push_cast; rw [Int.add_mul]; omega
  unfold wE; simp only; rw [mn_eq]; omega
theorem cnt_nn (s : Sp) (k : Int) : 0 ≤ wCount s k := by
  unfold wCount; split
  · omega
  · rename_i h
    have hp := wCover_w h
    have hl := wCover_lt h
    have hb := wCover_bd s k
    obtain ⟨q, _, hq⟩ := cover_mul h
    rw [hq, Int.mul_ediv_cancel _ (by omega)]
    have := (Int.le_ediv_iff_mul_le (a := q) (b := (wCover s k).2 - 1) hp).2 (by omega)
    omega

theorem gbN {w w' : World} (h : Gr w w') : w.grownBy w' none := ⟨h.os, h.tape, h.output, h.size, fun k hk _ => h.block k hk⟩
/-- A round keeps all cells that are not its loop's own; what becomes its own is new. -/
structure Kp (mine : World → Nat → Prop) (W W' : World) : Prop where
  size : W.heap.size ≤ W'.heap.size
  cells : ∀ j c ty f, W.heap[j]? = some (.cells c ty f) → ¬ mine W j → W'.heap[j]? = some (.cells c ty f)
  mines : ∀ j, mine W' j → mine W j ∨ (W.heap.size ≤ j ∧ j < W'.heap.size)
theorem Kp.tr {mine : World → Nat → Prop} {A B C : World} (h : Kp mine A B) (k : Kp mine B C) : Kp mine A C := by
  refine ⟨Nat.le_trans h.size k.size, fun j c ty f hj hm => ?_, fun j hj => ?_⟩
  · refine k.cells j c ty f (h.cells j c ty f hj hm) (fun hb => ?_)
    rcases h.mines j hb with h1 | h1
    · exact hm h1
    · have := (Array.getElem?_eq_some_iff.1 hj).1; omega
  · have h1 := k.size
    have h2 := h.size
    rcases k.mines j hj with h3 | h3
    · rcases h.mines j h3 with h4 | h4
      · exact .inl h4
      · exact .inr ⟨h4.1, by omega⟩
    · exact .inr ⟨by omega, h3.2⟩

set_option maxHeartbeats 1000000 in
theorem each_calls (a b k : Int) (w : World) :
    Calls Try.prog 21 #[.agg #[.int .i64 a, .int .i64 b], .int .i64 k] w fun e w' => e = .returned (.func (.func 43) #[] #[.pointer (some ⟨w.heap.size, 0, none⟩), .pointer (some ⟨w.heap.size + 1, 0, none⟩)]) ∧ w' = (w.alloc (.cells #[.int .i64 a, .int .i64 b] 26)).alloc (.cells #[.int .i64 k] 3) := by
  go_enter Try.func21, Try.ntmps21
  go_wp2_with fail
  go_ret
  exact ⟨rfl, rfl⟩

set_option maxRecDepth 100000 in
set_option maxHeartbeats 2000000 in
theorem each1_in (mine : World → Nat → Prop) (n : Nat) (hn : 1 ≤ n) (l bs bt : Nat) (a b k : Int) (J Jx : List Sp → World → Prop) (W : World) (hJ : AbidesFrom W.heap.size J)
    (hst : ∀ A B j, W.heap.size ≤ A.heap.size → Gr A B → mine B j → mine A j) (hv : ∀ j, mine W j → j < W.heap.size) (hmt : ¬ mine W bt)
    (hY : ∀ pre x W1, J pre W1 → pre.length < (wCount (a, b) k).toNat → YieldAt Fence.wide (n - 1) Try.prog l #[.agg #[.int .i64 x.1, .int .i64 x.2]] W1 fun e W' =>
      (e = .returned (.bool true) ∧ J (pre ++ [x]) W' ∧ Kp mine W1 W') ∨ (e = .returned (.bool false) ∧ Jx (pre ++ [x]) W'))
    (hbs : W.heap[bs]? = some (.cells #[.int .i64 a, .int .i64 b] 26 (0, 0))) (hbt : W.heap[bt]? = some (.cells #[.int .i64 k] 3 (0, 0))) (h0 : J [] W) :
    CallsIn Fence.wide n Try.prog 43 #[.func (.yield l) #[] #[], .pointer (some ⟨bs, 0, none⟩), .pointer (some ⟨bt, 0, none⟩)] W fun e W' => (∃ v, e = .returned v) ∧
      ((∃ ys, ys = wEach (a, b) k (wCount (a, b) k).toNat ∧ J ys W') ∨ (∃ pre, (∃ m, m ≤ (wCount (a, b) k).toNat ∧ pre = wEach (a, b) k m) ∧ Jx pre W')) := by
  have c0 : W.cell? ⟨bs, 0, none⟩ = some (.int .i64 a) := by rw [cell_of_row W bs 0 _ _ _ hbs]; rfl
  have c1 : W.cell? ⟨bs, 1, none⟩ = some (.int .i64 b) := by rw [cell_of_row W bs 1 _ _ _ hbs]; rfl
  have c2 : W.cell? ⟨bt, 0, none⟩ = some (.int .i64 k) := by rw [cell_of_row W bt 0 _ _ _ hbt]; rfl
  have hcov := cover_calls a b k
  have hcb := wCover_bd (a, b) k
  have hcn := cnt_nn (a, b) k
  obtain ⟨cnt, hcnt⟩ := Int.eq_ofNat_of_zero_le hcn
  have hci := cnt_iff (a, b) k
  have hof := fun i h => of_each (s := (a, b)) (k := k) (i := i) h
  have hnx := fun i h => each_next (s := (a, b)) (k := k) (i := i) h
  have hls := fun i h => each_last (s := (a, b)) (k := k) (i := i) h
  have hw0 : wT (a, b) k 0 = (wCover (a, b) k).1 := by simp [wT]
  have hes := wEach_succ (a, b) k
  have hel := wEach_len (a, b) k
  have hE2 : ∀ i : Nat, (i : Int) < cnt → wT (a, b) k i < (wE (a, b) k i).2 := fun i hi => by
    have h1 := (hci i).1 (by rw [hcnt]; exact hi)
    have hp := wCover_w (s := (a, b)) (k := k) (fun e => by unfold wCount at hcnt; rw [if_pos e] at hcnt; omega)
    unfold wE; simp only; rw [mn_eq]; omega
  rw [hcnt] at hY hci hof hnx hls ⊢
  simp only [Int.toNat_natCast] at hY ⊢
  generalize wCover (a, b) k = c at *
  obtain ⟨p, q⟩ := c
  simp only at hcb hci hls hw0 hcov
  generalize wEach (a, b) k = we at *
  generalize wT (a, b) k = wt at *
  generalize wE (a, b) k = ee at *
  clear hcnt hcn
  refine callsIn_of_wp Try.func43 rfl trivial ?_ rfl
  simp only [Try.ntmps43, List.size_toArray, List.length_cons, List.length_nil, Nat.reduceAdd, Nat.reduceSub, Array.replicate_succ, Array.replicate_zero, List.push_toArray, List.append_toArray, List.nil_append, List.cons_append]
  have Hcov := Lib.hid hcov; clear hcov
  gi_wp2_with fail
  refine ⟨trivial, ?_⟩
  refine (callsIn_wide.2 (Hcov.out _)).mono ?_
  rintro e w1 ⟨rfl, hb⟩
  have B1 := heap_alloc_new w1 (.cells #[.int .i64 p, .int .i64 q] 26)
  have hG1 : Gr W (w1.alloc (.cells #[.int .i64 p, .int .i64 q] 26)) := hb.al _
  have hb1 := hb.size
  have hJ1 : J (we 0) (w1.alloc (.cells #[.int .i64 p, .int .i64 q] 26)) := by
    have e0 : we 0 = [] := List.eq_nil_of_length_eq_zero (hel 0)
    rw [e0]
    exact hJ _ _ _ none h0 (gbN hG1) (fun r e => by cases e)
  have B2 := (hG1.block bt (Array.getElem?_eq_some_iff.1 hbt).1).trans hbt
  have m1 : ∀ j, mine (w1.alloc (.cells #[.int .i64 p, .int .i64 q] 26)) j → mine W j := fun j h => hst _ _ j (Nat.le_refl _) hG1 h
  clear hb c0 c1 c2
  have hB1 : w1.heap.size < (w1.alloc (.cells #[.int .i64 p, .int .i64 q] 26)).heap.size := (Array.getElem?_eq_some_iff.1 B1).1
  have hW1 := hG1.size
  have d0 : (w1.alloc (.cells #[.int .i64 p, .int .i64 q] 26)).cell? ⟨w1.heap.size, 0, none⟩ = some (.int .i64 p) := by rw [cell_of_row _ w1.heap.size 0 _ _ _ B1]; rfl
  gi_wp2_with fail
  generalize w1.alloc (.cells #[.int .i64 p, .int .i64 q] 26) = W1 at *
  generalize w1.heap.size = B at *
  have mB : ¬ mine W1 B := fun h => by have := hv B (m1 B h); omega
  have mT : ¬ mine W1 bt := fun h => hmt (m1 bt h)
  have mv : ∀ j, mine W1 j → j < W1.heap.size := fun j h => by have := hv j (m1 j h); omega
  clear hmt hv m1
  gi_loopw [5] (fun v wr => ∃ (i : Nat) (x : Int), i ≤ cnt ∧ v = .int .i64 x ∧ (i < cnt → x = wt i) ∧ (¬ i < cnt → q ≤ x) ∧ J (we i) wr ∧ ¬ mine wr B ∧ ¬ mine wr bt ∧ (∀ j, mine wr j → j < wr.heap.size) ∧ wr.heap[B]? = some (.cells #[.int .i64 p, .int .i64 q] 26 (0, 0)) ∧ wr.heap[bt]? = some (.cells #[.int .i64 k] 3 (0, 0)) ∧ W1.heap.size ≤ wr.heap.size) (fun v _ => (q - intOf v).toNat)
  case atStart =>
    refine ⟨0, p, Nat.zero_le _, rfl, fun _ => hw0.symm, fun h => ?_, hJ1, mB, mT, mv, B1, B2, Nat.le_refl _⟩
    have := mt (hci 0).2 (by simpa using h)
    omega
  case round =>
    obtain ⟨i, x, hi, rfl, hx1, hx2, hJr, mBr, mTr, mvr, B1r, B2r, hsr⟩ := hrel
    have e0 : wr.cell? ⟨B, 1, none⟩ = some (.int .i64 q) := by rw [cell_of_row _ B 1 _ _ _ B1r]; rfl
    have e1 : wr.cell? ⟨bt, 0, none⟩ = some (.int .i64 k) := by rw [cell_of_row _ bt 0 _ _ _ B2r]; rfl
    by_cases hlt : i < cnt
    · obtain rfl := hx1 hlt
      have hlq : wt i < q := (hci i).1 (by omega)
      have hofi := hof i (by omega)
      have hofc := of_calls (wt i) k
      rw [hofi] at hofc
      have Hofc := Lib.hid hofc
      clear hofc hofi hx1 hx2 hJ1 mB mT mv B1 B2 d0
      gi_wp2_with fail
      refine ⟨trivial, ?_⟩
      refine (callsIn_wide.2 (Hofc.out _)).mono ?_
      rintro e w2 ⟨rfl, hb⟩
      have hG2 : Gr wr (w2.alloc (.cells #[.int .i64 (ee i).1, .int .i64 (ee i).2] 26)) := hb.al _
      have hb2 := hb.size
      have B3 := heap_alloc_new w2 (.cells #[.int .i64 (ee i).1, .int .i64 (ee i).2] 26)
      have hB3 := (Array.getElem?_eq_some_iff.1 B3).1
      have f0 : (w2.alloc (.cells #[.int .i64 (ee i).1, .int .i64 (ee i).2] 26)).cell? ⟨w2.heap.size, 0, none⟩ = some (.int .i64 (ee i).1) := by rw [cell_of_row _ w2.heap.size 0 _ _ _ B3]; rfl
      have f1 : (w2.alloc (.cells #[.int .i64 (ee i).1, .int .i64 (ee i).2] 26)).cell? ⟨w2.heap.size, 1, none⟩ = some (.int .i64 (ee i).2) := by rw [cell_of_row _ w2.heap.size 1 _ _ _ B3]; rfl
      have hJ3 := hJ _ _ _ none hJr (gbN hG2) (fun r e => by cases e)
      have hm3 : ∀ j, mine (w2.alloc (.cells #[.int .i64 (ee i).1, .int .i64 (ee i).2] 26)) j → mine wr j := fun j h => hst _ _ j (by omega) hG2 h
      obtain ⟨fn, tmps, assign, body, hy, hR⟩ := hY _ (ee i) _ hJ3 (by rw [hel]; exact hlt)
      gi_wp2_with fail
      refine hR.mono ?_
      rintro e W4 (⟨rfl, hJ4, hk4⟩ | ⟨rfl, hJx4⟩)
      · have B34 := hk4.cells _ _ _ _ B3 (fun h => by have := mvr _ (hm3 _ h); omega)
        have hg2 := hG2.size
        have B14 := hk4.cells _ _ _ _ ((hG2.block B (Array.getElem?_eq_some_iff.1 B1r).1).trans B1r) (fun h => mBr (hm3 _ h))
        have B24 := hk4.cells _ _ _ _ ((hG2.block bt (Array.getElem?_eq_some_iff.1 B2r).1).trans B2r) (fun h => mTr (hm3 _ h))
        have f14 : W4.cell? ⟨w2.heap.size, 1, none⟩ = some (.int .i64 (ee i).2) := by rw [cell_of_row _ w2.heap.size 1 _ _ _ B34]; rfl
        have hk4s := hk4.size
        have mB4 : ¬ mine W4 B := fun h => by
          rcases hk4.mines _ h with h | h
          · exact mBr (hm3 _ h)
          · have := (Array.getElem?_eq_some_iff.1 B1r).1; omega
        have mT4 : ¬ mine W4 bt := fun h => by
          rcases hk4.mines _ h with h | h
          · exact mTr (hm3 _ h)
          · have := (Array.getElem?_eq_some_iff.1 B2r).1; omega
        have mv4 : ∀ j, mine W4 j → j < W4.heap.size := fun j h => by
          rcases hk4.mines _ h with h | h
          · have := mvr _ (hm3 _ h); omega
          · exact h.2
        have hx3 : i + 1 < cnt → (ee i).2 = wt (i + 1) := fun h => hnx i (by omega)
        have hx4 : ¬ i + 1 < cnt → q ≤ (ee i).2 := fun h => hls i (by omega)
        have hgt := hE2 i (by omega)
        rw [← hes] at hJ4
        gi_wp2_with fail
        go_roundw
        case rel => exact ⟨i + 1, (ee i).2, by omega, rfl, hx3, hx4, hJ4, mB4, mT4, mv4, B14, B24, by omega⟩
        case measure => simp [intOf]; omega
      · gi_wp2_with fail
        refine bodyPost_ret (results_none rfl _ _ _) rfl ?_
        exact ⟨⟨_, rfl⟩, .inr ⟨_, ⟨i + 1, by omega, (hes i).symm⟩, hJx4⟩⟩
    · obtain rfl : i = cnt := by omega
      have hqx : ¬ x < q := by have := hx2 hlt; omega
      gi_wp2_with fail
      go_end0
      first | exact ⟨⟨_, rfl⟩, .inl hJr⟩ | exact ⟨⟨_, rfl⟩, .inl ⟨_, rfl, hJr⟩⟩

theorem each_stops (mine : World → Nat → Prop) (n : Nat) (hn : 1 ≤ n) (bs bt : Nat) (a b k : Int) (w : World) (hmine : ∀ A B j, w.heap.size ≤ A.heap.size → Gr A B → mine B j → mine A j) (hv : ∀ W, Gr w W → ∀ j, mine W j → j < W.heap.size) (hmt : ∀ W, Gr w W → ¬ mine W bt)
    (hbs : w.heap[bs]? = some (.cells #[.int .i64 a, .int .i64 b] 26 (0, 0))) (hbt : w.heap[bt]? = some (.cells #[.int .i64 k] 3 (0, 0))) :
    SeqStopsK Fence.wide n Try.prog 43 #[.pointer (some ⟨bs, 0, none⟩), .pointer (some ⟨bt, 0, none⟩)] (fun x : Sp => #[.agg #[.int .i64 x.1, .int .i64 x.2]]) (Kp mine) (fun ys => ys = wEach (a, b) k (wCount (a, b) k).toNat) (fun pre => ∃ m, m ≤ (wCount (a, b) k).toNat ∧ pre = wEach (a, b) k m) (wCount (a, b) k).toNat w :=
  fun l J Jx W hW hJ _ hY h0 => each1_in mine n hn l bs bt a b k J Jx W hJ (fun A B j hs hg hm => hmine A B j (Nat.le_trans hW.size hs) hg hm) (hv W hW) (hmt W hW) hY
    ((hW.block bs (Array.getElem?_eq_some_iff.1 hbs).1).trans hbs) ((hW.block bt (Array.getElem?_eq_some_iff.1 hbt).1).trans hbt) h0
end Go.Proofs.Ytafdddakkenlaaa

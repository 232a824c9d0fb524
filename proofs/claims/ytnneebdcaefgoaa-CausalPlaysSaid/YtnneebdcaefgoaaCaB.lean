/- The reference's vectors. -/
import Derived.Test.YtnneebdcaefgoaaCaA
namespace Go.Proofs.Ytnneebdcaefgoaa
open Go.RowKit

/-- Eight cells. -/
def Arr (w : World) (B : Nat) (f : Nat → Int) : Prop := ∀ m : Nat, m < 8 → w.cell? ⟨B, m, none⟩ = some (.int .i64 (f m)) ∧ w.frozen? ⟨B, m, none⟩ = false
theorem Arr.set {w : World} {B : Nat} {f g : Nat → Int} (h : Arr w B f) {m : Nat} (x : Int) (hx : g m = x) (hg : ∀ k : Nat, k ≠ m → g k = f k) : Arr (w.setCell ⟨B, m, none⟩ (.int .i64 x)) B g := by
  intro k hk
  rw [World.frozen?_setCell]
  refine ⟨?_, (h k hk).2⟩
  by_cases e : k = m
  · subst e; rw [World.cell?_setCell_same _ _ _ (h k hk).1, hx]
  · rw [World.cell?_setCell_other _ ⟨B, m, none⟩ ⟨B, k, none⟩ _ (by intro q; injection q with _ q2; omega), (h k hk).1, hg k e]
theorem Arr.gr {w w1 : World} {B : Nat} {f : Nat → Int} (h : Arr w B f) (hg : Gr w w1) : Arr w1 B f := fun m hm => ⟨keepc hg (h m hm).1, keepf hg (h m hm).1 (h m hm).2⟩
theorem Arr.far {w : World} {B B1 o : Nat} {f : Nat → Int} (h : Arr w B f) (v : Value) (hne : B1 ≠ B) : Arr (w.setCell ⟨B1, o, none⟩ v) B f := fun m hm => by
  rw [World.frozen?_setCell, World.cell?_setCell_other _ ⟨B1, o, none⟩ ⟨B, m, none⟩ _ (by intro q; injection q with q1; exact hne q1)]; exact h m hm
theorem Arr.congr {w : World} {B : Nat} {f g : Nat → Int} (h : Arr w B f) (hg : ∀ k, k < 8 → g k = f k) : Arr w B g := fun m hm => by rw [hg m hm]; exact h m hm
/-- An array of eight. -/
def arr8 (f : Nat → Int) : Value := .agg #[.int .i64 (f 0), .int .i64 (f 1), .int .i64 (f 2), .int .i64 (f 3), .int .i64 (f 4), .int .i64 (f 5), .int .i64 (f 6), .int .i64 (f 7)]
theorem arr_new (w : World) (T : TypeId) (f : Nat → Int) : Arr (w.alloc (.cells #[.int .i64 (f 0), .int .i64 (f 1), .int .i64 (f 2), .int .i64 (f 3), .int .i64 (f 4), .int .i64 (f 5), .int .i64 (f 6), .int .i64 (f 7)] T)) w.heap.size f := by
  intro m hm
  have hc := cell_of_row (w.alloc (.cells #[.int .i64 (f 0), .int .i64 (f 1), .int .i64 (f 2), .int .i64 (f 3), .int .i64 (f 4), .int .i64 (f 5), .int .i64 (f 6), .int .i64 (f 7)] T)) w.heap.size m _ _ _ (heap_alloc_new w _)
  have hf := frozen_of_row (w.alloc (.cells #[.int .i64 (f 0), .int .i64 (f 1), .int .i64 (f 2), .int .i64 (f 3), .int .i64 (f 4), .int .i64 (f 5), .int .i64 (f 6), .int .i64 (f 7)] T)) w.heap.size m _ _ (heap_alloc_new w _)
  match m, hm with
  | 0, _ | 1, _ | 2, _ | 3, _ | 4, _ | 5, _ | 6, _ | 7, _ => exact ⟨hc, hf⟩
def allTo (v : List Int) (k : Nat) (i : Nat) : Int := if i < k then at8 v i else 0
theorem allTo_succ (v : List Int) (k : Nat) : allTo v (k + 1) k = at8 v k ∧ ∀ j, j ≠ k → allTo v (k + 1) j = allTo v k j := by
  unfold allTo
  refine ⟨by rw [if_pos (by omega)], fun j hj => ?_⟩
  by_cases h : j < k
  · rw [if_pos h, if_pos (by omega)]
  · rw [if_neg h, if_neg (by omega)]
theorem allTo_end {v : List Int} {k : Nat} (h : v.length ≤ k ∨ 8 ≤ k) {i : Nat} (hi : i < 8) : allTo v k i = at8 v i := by
  unfold allTo
  by_cases h1 : i < k
  · rw [if_pos h1]
  · rw [if_neg h1, at8_out (by omega)]
set_option maxRecDepth 100000 in
set_option maxHeartbeats 1000000 in
theorem all_calls (v : Value) (l : List Int) (w : World) (hv : rdRow w 1 v l.length (encI l)) (hk : l.length ≤ 1000000) :
    Calls Try.prog 40 #[v] w fun e w' => e = .returned (arr8 (at8 l)) ∧ Gr w w' := by
  obtain ⟨a, cap, rfl, hcap, hrd⟩ := rd_at hv
  have Hrd := Lib.hid hrd
  clear hrd hv
  go_enter Try.func40, Try.ntmps40
  go_wp2_with fail
  go_loopw [4, 5] (fun i _ wr => ∃ k : Nat, k ≤ l.length ∧ k ≤ 8 ∧ i = .int .i64 k ∧ Arr wr w.heap.size (fun _ => 0) ∧ Arr wr (w.heap.size + 1) (allTo l k) ∧ Gr w wr) (fun i _ _ => l.length - (intOf i).toNat)
  case atStart => exact ⟨0, Nat.zero_le _, Nat.zero_le _, rfl, (arr_new _ 70 fun _ => 0).gr (Gr.al Gr.rfl' _), by
      have h := arr_new (w.alloc (.cells #[.int .i64 0, .int .i64 0, .int .i64 0, .int .i64 0, .int .i64 0, .int .i64 0, .int .i64 0, .int .i64 0] 70)) 70 (fun _ => 0)
      have hz : (w.alloc (.cells #[.int .i64 0, .int .i64 0, .int .i64 0, .int .i64 0, .int .i64 0, .int .i64 0, .int .i64 0, .int .i64 0] 70)).heap.size = w.heap.size + 1 := by simp
      rw [hz] at h
      exact h.congr fun k _ => by simp [allTo], by (repeat (first | exact Gr.rfl' | refine Gr.al ?_ _ | refine Gr.dr ?_ | refine Gr.drN ?_ | refine Gr.sc ?_ (by simp <;> omega) _ | refine Gr.tr ?_ (by assumption)))⟩
  case round =>
    obtain ⟨k, hk1, hk8, rfl, ha, hb, hg⟩ := hrel
    obtain ⟨B, hB⟩ : ∃ B, w.heap.size + 1 = B := ⟨_, rfl⟩
    rw [hB] at hb ⊢
    have hBz : w.heap.size ≤ B := by omega
    have HB := Lib.hid hB
    clear hB
    by_cases hlt : k < l.length ∧ k < 8
    · obtain ⟨hlt, hlt8⟩ := hlt
      obtain ⟨b, o, rfl, hc⟩ := Hrd.out (by omega)
      have c0 := keepc hg (hc k hlt)
      have g1 : (k : Int) < l.length := by omega
      have g2 : (k : Int) < 8 := by omega
      have g0 : (0 : Int) ≤ k := by omega
      have hs := (hb k hlt8)
      have hs1 := hs.1; have hs2 := hs.2
      have He := Lib.hid (at8_get hlt)
      have Ha := Lib.hid ha; have Hb := Lib.hid hb; have Hg := Lib.hid hg
      have Hsu := Lib.hid (allTo_succ l k)
      clear ha hb hc hs
      generalize l[k] = x at *
      have hcs : (x < 0 ∧ clN x = 0) ∨ (¬ x < 0 ∧ 1099511627776 < x ∧ clN x = 1099511627776) ∨ (¬ x < 0 ∧ ¬ 1099511627776 < x ∧ clN x = x) := by
        unfold clN topN; by_cases h1 : x < 0
        · left; exact ⟨h1, if_pos h1⟩
        · by_cases h2 : 1099511627776 < x
          · right; left; exact ⟨h1, h2, by rw [if_neg h1, if_pos h2]⟩
          · right; right; exact ⟨h1, h2, by rw [if_neg h1, if_neg h2]⟩
      rcases hcs with ⟨h1, h3⟩ | ⟨h1, h2, h3⟩ | ⟨h1, h2, h3⟩
      all_goals
        have H3 := Lib.hid h3
        clear h3
        go_wp2_with fail
        go_roundw
        case rel => exact ⟨k + 1, by omega, by omega, by go_num, Ha.out.far _ (by have := HB.out; omega), Hb.out.set _ (by rw [Hsu.out.1, He.out, H3.out]) Hsu.out.2, Gr.sc Hg.out (by exact hBz) _⟩
        case measure => simp [intOf]; omega
    · have hend := fun i (hi : i < 8) => allTo_end (v := l) (k := k) (by omega) hi
      replace hb := hb.congr (fun i hi => (hend i hi).symm)
      have b0 := (hb 0 (by decide)).1; have b1 := (hb 1 (by decide)).1; have b2 := (hb 2 (by decide)).1; have b3 := (hb 3 (by decide)).1
      have b4 := (hb 4 (by decide)).1; have b5 := (hb 5 (by decide)).1; have b6 := (hb 6 (by decide)).1; have b7 := (hb 7 (by decide)).1
      have a0 := (ha 0 (by decide)).1; have a1 := (ha 1 (by decide)).1; have a2 := (ha 2 (by decide)).1; have a3 := (ha 3 (by decide)).1
      have a4 := (ha 4 (by decide)).1; have a5 := (ha 5 (by decide)).1; have a6 := (ha 6 (by decide)).1; have a7 := (ha 7 (by decide)).1
      have f0 := (ha 0 (by decide)).2; have f1 := (ha 1 (by decide)).2; have f2 := (ha 2 (by decide)).2; have f3 := (ha 3 (by decide)).2
      have f4 := (ha 4 (by decide)).2; have f5 := (ha 5 (by decide)).2; have f6 := (ha 6 (by decide)).2; have f7 := (ha 7 (by decide)).2
      clear hend hb ha
      have hd : ((k : Int) < l.length) = False ∨ ((k : Int) < l.length) = True ∧ ((k : Int) < 8) = False := by
        by_cases h1 : (k : Int) < l.length
        · right; exact ⟨by simp [h1], by simp; omega⟩
        · left; simp [h1]
      rcases hd with hd | ⟨hd, hd2⟩
      all_goals
        go_wp2_with fail
        exact bodyPost_ret (v := arr8 (at8 l)) (by simp [results, Try.results40, go_sem, arr8, *]) rfl ⟨rfl, by (with_reducible (repeat (first | assumption | exact Gr.rfl' | refine Gr.al ?_ _ | refine Gr.dr ?_ | refine Gr.drN ?_ | refine Gr.sc ?_ (by simp <;> omega) _)))⟩
/-- Eight cells that are read. -/
def ArrR (w : World) (B : Nat) (f : Nat → Int) : Prop := B < w.heap.size ∧ ∀ m : Nat, m < 8 → w.cell? ⟨B, m, none⟩ = some (.int .i64 (f m))
theorem ArrR.gr {w w1 : World} {B : Nat} {f : Nat → Int} (h : ArrR w B f) (hg : Gr w w1) : ArrR w1 B f := ⟨Nat.lt_of_lt_of_le h.1 hg.size, fun m hm => keepc hg (h.2 m hm)⟩
theorem ArrR.grown {w w1 : World} {B : Nat} {f : Nat → Int} {row : Option Nat} (h : ArrR w B f) (hg : w.grownBy w1 row) (hne : ∀ k, row = some k → k ≠ B) : ArrR w1 B f := ⟨Nat.lt_of_lt_of_le h.1 hg.size, fun m hm => cell_grown' hg hne (h.2 m hm)⟩
theorem Arr.rd {w : World} {B : Nat} {f : Nat → Int} (h : Arr w B f) : ArrR w B f := ⟨World.block_lt_of_cell? w _ (h 0 (by decide)).1, fun m hm => (h m hm).1⟩
def preN (f : Nat → Int) (m : Nat) : List Int := (List.range m).map f
theorem preN_len (f : Nat → Int) (m : Nat) : (preN f m).length = m := by simp [preN]
theorem preN_succ (f : Nat → Int) (m : Nat) : encI (preN f (m + 1)) = encI (preN f m) ++ [.int .i64 (f m)] := by simp [preN, List.range_succ]
theorem slen_step (f : Nat → Int) (k : Nat) : (f k = 0 → slen f (k + 1) = slen f k) ∧ (f k ≠ 0 → slen f (k + 1) = k + 1) := by
  constructor <;> intro h <;> simp [slen, h]
set_option maxRecDepth 100000 in
set_option maxHeartbeats 1000000 in
theorem vector_calls (f : Nat → Int) (hf : ∀ i, i < 8 → 0 ≤ f i) (w : World) :
    Calls Try.prog 41 #[arr8 f] w fun e w' => ∃ v', e = .returned v' ∧ w'.ownsRow w.heap.size 3 1 v' (vecOf f).length (encI (vecOf f)) ∧ Gr w w' := by
  have ha0 := (arr_new w 70 f).rd
  have hle := slen_le f
  have hzr := slen_zero f
  have hst := slen_step f
  have Hle := Lib.hid hle; have Hzr := Lib.hid hzr; have Hst := Lib.hid hst; have Hf := Lib.hid hf
  clear hle hzr hst hf
  obtain ⟨i0, hi, hz0, hz1, hz2⟩ := info_parts infoInt
  unfold arr8
  go_enter Try.func41, Try.ntmps41
  go_wp2_with fail
  have hG0 : Gr w (w.alloc (.cells #[.int .i64 (f 0), .int .i64 (f 1), .int .i64 (f 2), .int .i64 (f 3), .int .i64 (f 4), .int .i64 (f 5), .int .i64 (f 6), .int .i64 (f 7)] 70)) := by (repeat (first | exact Gr.rfl' | refine Gr.al ?_ _ | refine Gr.dr ?_ | refine Gr.drN ?_ | refine Gr.sc ?_ (by simp <;> omega) _ | refine Gr.tr ?_ (by assumption)))
  generalize hw0 : w.alloc (.cells #[.int .i64 (f 0), .int .i64 (f 1), .int .i64 (f 2), .int .i64 (f 3), .int .i64 (f 4), .int .i64 (f 5), .int .i64 (f 6), .int .i64 (f 7)] 70) = w0 at *
  clear hw0
  go_loopw [3, 4] (fun u i wr => ∃ k : Nat, k ≤ 8 ∧ i = .int .i64 k ∧ ArrR wr w.heap.size f ∧ wr.ownsRow (w.heap.size + 1) 3 1 u (slen f k) (encI (preN f (slen f k))) ∧ Gr w wr) (fun _ i _ => 8 - (intOf i).toNat)
  case atStart => exact ⟨0, Nat.zero_le _, rfl, ha0, World.ownsRow_nil _ _ _ _, hG0⟩
  case round =>
    obtain ⟨k, hk, rfl, ha, hown, hg⟩ := hrel
    have Hg0 := Lib.hid hG0
    clear ha0 hG0
    obtain ⟨ua, uc, hu⟩ := own_slice hown
    subst hu
    obtain ⟨wo, rfl⟩ : ∃ wo : World, wo = wr := ⟨_, rfl⟩
    by_cases hlt : k < 8
    · have h1 : (k : Int) < 8 := by omega
      have c0 := ha.2 k hlt
      have hkz := Hf.out k hlt
      have hsl := Hle.out k
      have Hst' := Lib.hid (Hst.out k)
      by_cases hx : f k = 0
      · have Hx := Lib.hid hx
        have Ha := Lib.hid ha; have Hown := Lib.hid hown; have Hg := Lib.hid hg
        rw [hx] at c0
        clear ha hown hg hx hkz
        go_wp2_with fail
        go_roundw
        case rel => exact ⟨k + 1, by omega, by go_num, Ha.out, by rw [Hst'.out.1 Hx.out]; exact Hown.out, Hg.out⟩
        case measure => simp [intOf]; omega
      · have h2 : 0 < f k := by omega
        have Hx := Lib.hid hx
        have Ha := Lib.hid ha; have Hown := Lib.hid hown; have Hg := Lib.hid hg
        clear ha hown hg hx hkz
        generalize hxx : f k = x at c0 h2
        have Hxx := Lib.hid hxx
        clear hxx
        go_wp2_with fail
        go_loopw [3] (fun u wr => ∃ m : Nat, m ≤ k ∧ slen f k ≤ m ∧ ArrR wr w.heap.size f ∧ wr.ownsRow (w.heap.size + 1) 3 1 u m (encI (preN f m)) ∧ Gr w wr) (fun u _ => k - (match u with | .slice _ n _ => n | _ => 0))
        case atStart => exact ⟨slen f k, by omega, Nat.le_refl _, Ha.out, Hown.out, Hg.out⟩
        case round =>
          obtain ⟨m, hm, hsm, ha, hown, hg⟩ := hrel
          obtain ⟨ua2, uc2, hu⟩ := own_slice hown
          subst hu
          have Ha2 := Lib.hid ha; have Hown2 := Lib.hid hown; have Hg2 := Lib.hid hg
          have hz := hg.size
          have hlt2 := ha.1
          have c1 := ha.2 k hlt
          have c2 := Hxx.out
          rw [c2] at c1
          clear ha hown hg c2
          by_cases hmk : m < k
          · have g1 : (m : Int) < k := by omega
            go_wp2_with (at_builtin; refine wpList_append_own _ rfl _ _ 31 rfl (w.heap.size + 1) 3 i0 _ 1 8 Try.underlying31 hi hz0 hz1 hz2 rfl (by decide) _ _ _ rfl (Hown2.out.alloc _) ⟨wr.heap.size, 0, none⟩ 1 1 [.int .i64 0] rfl rfl (World.news_of_block (heap_alloc_new wr _)) (by intro u hu; simp only [List.mem_cons, List.not_mem_nil, or_false] at hu; subst hu; rfl) (by unfold maxLen; omega) (by omega) (by simp; omega) ?_; intro v3 w3 hown3 hgrow3 _)
            obtain ⟨ua3, uc3, hu⟩ := own_slice hown3
            subst hu
            go_roundw
            case rel => exact ⟨m + 1, by omega, by omega, (Ha2.out.gr (Gr.al Gr.rfl' _)).grown hgrow3 (fun j hj => by have := (Hown2.out.lt j hj).1; omega), by rw [preN_succ, Hzr.out k m hsm hmk]; exact hown3, gr_gb (Gr.al Hg2.out _) hgrow3 (fun j hj => by have := (Hown2.out.lt j hj).1; omega)⟩
            case measure => simp; omega
          · obtain rfl : m = k := by omega
            go_wp2_with (at_builtin; refine wpList_append_own _ rfl _ _ 31 rfl (w.heap.size + 1) 3 i0 _ 1 8 Try.underlying31 hi hz0 hz1 hz2 rfl (by decide) _ _ _ rfl (Hown2.out.alloc _) ⟨wr.heap.size, 0, none⟩ 1 1 [.int .i64 x] rfl rfl (World.news_of_block (heap_alloc_new wr _)) (by intro u hu; simp only [List.mem_cons, List.not_mem_nil, or_false] at hu; subst hu; rfl) (by unfold maxLen; omega) (by omega) (by simp; omega) ?_; intro v3 w3 hown3 hgrow3 _)
            go_roundw
            case rel => exact ⟨m + 1, by omega, by go_num, (Ha2.out.gr (Gr.al Gr.rfl' _)).grown hgrow3 (fun j hj => by have := (Hown2.out.lt j hj).1; omega), by rw [Hst'.out.2 Hx.out, preN_succ, Hxx.out]; exact hown3, gr_gb (Gr.al Hg2.out _) hgrow3 (fun j hj => by have := (Hown2.out.lt j hj).1; omega)⟩
            case measure => simp [intOf]; omega
    · obtain rfl : k = 8 := by omega
      have Ha := Lib.hid ha; have Hown := Lib.hid hown; have Hg := Lib.hid hg
      clear ha hown hg
      go_wp2_with fail
      go_ret
      exact ⟨_, rfl, by rw [vecOf_len]; exact own_mono Hown.out (Nat.le_succ _), Hg.out⟩
end Go.Proofs.Ytnneebdcaefgoaa

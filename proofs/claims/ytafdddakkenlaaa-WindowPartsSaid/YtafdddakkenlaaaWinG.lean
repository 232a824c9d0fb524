import Derived.Test.YtafdddakkenlaaaWinF
import Derived.Deep.AppendLies
namespace Go.Proofs.Ytafdddakkenlaaa
open Go.RowKit
attribute [local go_sem] max2_mx min2_mn max_two' min_two'
attribute [local go_sem ↓] field26_0 field26_1

def wMeets (a b : Sp) : Bool := decide ((wBoth a b).1 < (wBoth a b).2)
set_option maxHeartbeats 1000000 in
theorem meets_calls (a b c d : Int) (w : World) :
    Calls Try.prog 20 #[.agg #[.int .i64 a, .int .i64 b], .agg #[.int .i64 c, .int .i64 d]] w fun e w' => e = .returned (.bool (wMeets (a, b) (c, d))) ∧ Gr w w' := by
  have hcal := both_calls a b c d
  have Hr := Lib.hid (show decide ((wBoth (a, b) (c, d)).1 < (wBoth (a, b) (c, d)).2) = wMeets (a, b) (c, d) from rfl)
  have Hcal := Lib.hid hcal; clear hcal
  go_enter Try.func20, Try.ntmps20
  go_wp2_with (first | (go_at_call 19; refine (Hcal.out _).mono ?_; rintro e w1 ⟨rfl, hb⟩; obtain ⟨hc, hf⟩ := bcell hb; have hz := hb.size; (try simp at hz); have z0 : w.heap.size < w1.heap.size := (by omega)))
  go_ret; exact ⟨ret_b rfl Hr.out, by (repeat (first | exact Gr.rfl' | refine Gr.al ?_ _ | refine Gr.dr ?_ | refine Gr.drN ?_ | refine Gr.sc ?_ (by simp <;> omega) _ | refine Gr.tr ?_ (by assumption)))⟩

def woS (s x : Sp) : List Sp := if wMeets x s = false then [x] else (if x.1 < s.1 then [(x.1, s.1)] else []) ++ (if s.2 < x.2 then [(s.2, x.2)] else [])
def withoutS (l : List Sp) (s : Sp) : List Sp := l.flatMap (woS s)

theorem withoutS_take (l : List Sp) (s : Sp) (k : Nat) (h : k < l.length) : withoutS (l.take (k + 1)) s = withoutS (l.take k) s ++ woS s l[k] := by
  unfold withoutS; rw [List.take_succ_eq_append_getElem h, List.flatMap_append]; simp
theorem woS_len (s x : Sp) : (woS s x).length ≤ 2 := by
  unfold woS; split
  · simp
  · simp only [List.length_append]; split <;> split <;> simp
theorem withoutS_len (l : List Sp) (s : Sp) : (withoutS l s).length ≤ 2 * l.length := by
  induction l with
  | nil => simp [withoutS]
  | cons x r ih =>
    have := woS_len s x
    have e : withoutS (x :: r) s = woS s x ++ withoutS r s := by simp [withoutS]
    rw [e, List.length_append, List.length_cons]; omega
theorem encS_append (a b : List Sp) : encS (a ++ b) = encS a ++ encS b := List.flatMap_append
theorem info26 : (Try.prog.info? 26).map (fun i => (i.zero, i.size, i.bytes)) = some (some (.agg #[.int .i64 0, .int .i64 0]), 2, 16) := by kernel_rfl

set_option maxRecDepth 100000 in
set_option maxHeartbeats 1000000 in
theorem without_calls (pb : Nat) (v : Value) (l : List Sp) (c d : Int) (w : World) (hp : w.cell? ⟨pb, 0, none⟩ = some v) (hv : rdRow w 2 v l.length (encS l)) (hk : l.length ≤ 100000) :
    Calls Try.prog 48 #[.pointer (some ⟨pb, 0, none⟩), .agg #[.int .i64 c, .int .i64 d]] w fun e w' => ∃ v', e = .returned v' ∧ w'.ownsRow w.heap.size 26 2 v' (withoutS l (c, d)).length (encS (withoutS l (c, d))) ∧ Gr w w' := by
  obtain ⟨_, a, cap, rfl, hcap, hrd⟩ := hv
  have hpb := World.block_lt_of_cell? w _ hp
  obtain ⟨i0, hi, hz0, hz1, hz2⟩ := info_parts info26
  go_enter Try.func48, Try.ntmps48
  go_wp2_with fail
  go_step3
  go_wp2_with fail
  go_step3
  go_wp2_with fail
  have cA : (w.alloc (Obj.cells #[.int .i64 c, .int .i64 d] 26)).cell? ⟨w.heap.size, 0, none⟩ = some (.int .i64 c) := by simp
  have cB : (w.alloc (Obj.cells #[.int .i64 c, .int .i64 d] 26)).cell? ⟨w.heap.size, 1, none⟩ = some (.int .i64 d) := by simp
  have hG0 : Gr w (w.alloc (Obj.cells #[.int .i64 c, .int .i64 d] 26)) := Gr.rfl'.al _
  have hsz : (w.alloc (Obj.cells #[.int .i64 c, .int .i64 d] 26)).heap.size = w.heap.size + 1 := by simp
  generalize hW0 : w.alloc (Obj.cells #[.int .i64 c, .int .i64 d] 26) = W0 at *
  clear hW0
  go_loopw [5, 13] (fun u i wr => ∃ k : Nat, k ≤ l.length ∧ i = .int .i64 k ∧ wr.ownsRow (w.heap.size + 1) 26 2 u (withoutS (l.take k) (c, d)).length (encS (withoutS (l.take k) (c, d))) ∧ Gr W0 wr) (fun _ i _ => l.length - (intOf i).toNat)
  case atStart => exact ⟨0, Nat.zero_le _, rfl, by simpa [withoutS, encS] using World.ownsRow_nil _ _ _ _, Gr.rfl'⟩
  case round =>
    obtain ⟨k, hkl, rfl, hown, hg⟩ := hrel
    by_cases hlt : k < l.length
    · obtain ⟨b, o, rfl, hc⟩ := hrd (by omega)
      have c0 := keepc (hG0.tr hg) (hc _ _ (encS_get l k hlt).1)
      have c1 := keepc (hG0.tr hg) (hc _ _ (encS_get l k hlt).2)
      rw [← Nat.add_assoc] at c1
      have cA' := keepc hg cA
      have cB' := keepc hg cB
      clear hc hrd cA cB
      have n0 := World.new_ne wr _ cA'
      simp only at n0
      have cA2 := fun x => keepc (Gr.al Gr.rfl' x) cA'
      have cB2 := fun x => keepc (Gr.al Gr.rfl' x) cB'
      have Hown := Lib.hid hown; clear hown
      have ht := withoutS_take l (c, d) k hlt
      generalize l[k] = x at c0 c1 ht
      obtain ⟨p, q⟩ := x
      have Ht := Lib.hid ht; clear ht
      have hl1 := withoutS_len (l.take k) (c, d)
      have hl2 : (l.take k).length ≤ k := List.length_take_le _ _
      have hl : (withoutS (l.take k) (c, d)).length ≤ 200000 := by omega
      clear hl1 hl2
      have hgs := hg.size; rw [hsz] at hgs
      have OW := fun (W : World) (h : Gr wr W) => own_gr Hown.out h
      have OW2 := Lib.hid OW; clear OW
      cases hm : wMeets (p, q) (c, d)
      · have Hw := Lib.hid (show woS (c, d) (p, q) = [(p, q)] by unfold woS; rw [if_pos hm])
        go_wp2_with (first | (go_at_call 20; refine (meets_calls _ _ _ _ _).mono ?_; rintro e w1 ⟨rfl, hb⟩; have hz := hb.size; (try simp at hz); have e0 : w1.cell? ⟨wr.heap.size, 0, none⟩ = some (.int .i64 p) := keepc hb (by simp); have e1 : w1.cell? ⟨wr.heap.size, 1, none⟩ = some (.int .i64 q) := keepc hb (by simp); have e2 := keepc hb (cA2 _); have e3 := keepc hb (cB2 _)) | ((at_builtin; refine wpList_append_own _ rfl _ _ 37 rfl (w.heap.size + 1) 26 i0 _ 2 16 Try.underlying37 hi hz0 hz1 hz2 rfl (by decide) _ _ _ rfl (OW2.out _ (Gr.al (Gr.tr (Gr.al Gr.rfl' _) hb) _)) ⟨w1.heap.size, 0, none⟩ 1 1 [.int .i64 p, .int .i64 q] rfl rfl (World.news_of_block (heap_alloc_new w1 _)) (by intro u hu; simp only [List.mem_cons, List.not_mem_nil, or_false] at hu; rcases hu with rfl | rfl <;> rfl) (by unfold maxLen; omega) (by omega) (by simp; omega) ?_; intro v2 w2 hown2 hgrow2 _)))
        have hg2 := gr_grown (w0 := W0) (by (repeat (first | exact Gr.rfl' | refine Gr.al ?_ _ | refine Gr.dr ?_ | refine Gr.drN ?_ | refine Gr.sc ?_ (by simp <;> omega) _ | refine Gr.tr ?_ (by assumption)))) (OW2.out _ (Gr.al (Gr.tr (Gr.al Gr.rfl' _) hb) _)) hgrow2 (by rw [hsz]; exact Nat.le_refl _)
        exact ⟨⟨k + 1, by omega, by go_num, own_cast hown2 (by rw [Ht.out, Hw.out]; simp) (by rw [Ht.out, Hw.out, encS_append]; simp [encS]), by (repeat (first | exact Gr.rfl' | refine Gr.al ?_ _ | refine Gr.dr ?_ | refine Gr.drN ?_ | refine Gr.sc ?_ (by simp <;> omega) _ | refine Gr.tr ?_ (by assumption)))⟩, by simp [intOf]; omega⟩
      · have hm' : ¬ wMeets (p, q) (c, d) = false := by simp [hm]
        by_cases hpc : p < c
        · by_cases hdq : d < q
          · have Hw := Lib.hid (show woS (c, d) (p, q) = [(p, c), (d, q)] by unfold woS; rw [if_neg hm', if_pos hpc, if_pos hdq]; rfl)
            go_wp2_with (first | (go_at_call 20; refine (meets_calls _ _ _ _ _).mono ?_; rintro e w1 ⟨rfl, hb⟩; have hz := hb.size; (try simp at hz); have e0 : w1.cell? ⟨wr.heap.size, 0, none⟩ = some (.int .i64 p) := keepc hb (by simp); have e1 : w1.cell? ⟨wr.heap.size, 1, none⟩ = some (.int .i64 q) := keepc hb (by simp); have e2 := keepc hb (cA2 _); have e3 := keepc hb (cB2 _)) | (at_builtin; refine wpList_append_own _ rfl _ _ 37 rfl (w.heap.size + 1) 26 i0 _ 2 16 Try.underlying37 hi hz0 hz1 hz2 rfl (by decide) _ _ _ rfl (hown2.alloc _) ⟨w2.heap.size, 0, none⟩ 1 1 [.int .i64 d, .int .i64 q] rfl rfl (World.news_of_block (heap_alloc_new w2 _)) (by intro u hu; simp only [List.mem_cons, List.not_mem_nil, or_false] at hu; rcases hu with rfl | rfl <;> rfl) (by unfold maxLen; omega) (by omega) (by simp; omega) ?_; intro v3 w3 hown3 hgrow3 _) | (((at_builtin; refine wpList_append_own _ rfl _ _ 37 rfl (w.heap.size + 1) 26 i0 _ 2 16 Try.underlying37 hi hz0 hz1 hz2 rfl (by decide) _ _ _ rfl (OW2.out _ (Gr.al (Gr.tr (Gr.al Gr.rfl' _) hb) _)) ⟨w1.heap.size, 0, none⟩ 1 1 [.int .i64 p, .int .i64 c] rfl rfl (World.news_of_block (heap_alloc_new w1 _)) (by intro u hu; simp only [List.mem_cons, List.not_mem_nil, or_false] at hu; rcases hu with rfl | rfl <;> rfl) (by unfold maxLen; omega) (by omega) (by simp; omega) ?_; intro v2 w2 hown2 hgrow2 _)); have hl0 := (Hown.out).lt; have f1 := cell_grown (OW2.out _ (Gr.al (Gr.tr (Gr.al Gr.rfl' _) hb) _)) hgrow2 (keepc (Gr.al Gr.rfl' _) e1) (fun k hk => Nat.ne_of_lt (hl0 k hk).2); have f3 := cell_grown (OW2.out _ (Gr.al (Gr.tr (Gr.al Gr.rfl' _) hb) _)) hgrow2 (keepc (Gr.al Gr.rfl' _) e3) (fun k hk => Nat.ne_of_gt (hl0 k hk).1); clear hl0; have hg2 := gr_grown (w0 := W0) (by (repeat (first | exact Gr.rfl' | refine Gr.al ?_ _ | refine Gr.dr ?_ | refine Gr.drN ?_ | refine Gr.sc ?_ (by simp <;> omega) _ | refine Gr.tr ?_ (by assumption)))) (OW2.out _ (Gr.al (Gr.tr (Gr.al Gr.rfl' _) hb) _)) hgrow2 (by rw [hsz]; exact Nat.le_refl _); have hg2s := hg2.size))
            have hg3 := gr_grown (w0 := W0) (hg2.al _) (hown2.alloc _) hgrow3 (by rw [hsz]; exact Nat.le_refl _)
            exact ⟨⟨k + 1, by omega, by go_num, own_cast hown3 (by rw [Ht.out, Hw.out]; simp) (by rw [Ht.out, Hw.out, encS_append]; simp [encS]), by (repeat (first | exact Gr.rfl' | refine Gr.al ?_ _ | refine Gr.dr ?_ | refine Gr.drN ?_ | refine Gr.sc ?_ (by simp <;> omega) _ | refine Gr.tr ?_ (by assumption)))⟩, by simp [intOf]; omega⟩
          · have Hw := Lib.hid (show woS (c, d) (p, q) = [(p, c)] by unfold woS; rw [if_neg hm', if_pos hpc, if_neg hdq]; rfl)
            go_wp2_with (first | (go_at_call 20; refine (meets_calls _ _ _ _ _).mono ?_; rintro e w1 ⟨rfl, hb⟩; have hz := hb.size; (try simp at hz); have e0 : w1.cell? ⟨wr.heap.size, 0, none⟩ = some (.int .i64 p) := keepc hb (by simp); have e1 : w1.cell? ⟨wr.heap.size, 1, none⟩ = some (.int .i64 q) := keepc hb (by simp); have e2 := keepc hb (cA2 _); have e3 := keepc hb (cB2 _)) | (((at_builtin; refine wpList_append_own _ rfl _ _ 37 rfl (w.heap.size + 1) 26 i0 _ 2 16 Try.underlying37 hi hz0 hz1 hz2 rfl (by decide) _ _ _ rfl (OW2.out _ (Gr.al (Gr.tr (Gr.al Gr.rfl' _) hb) _)) ⟨w1.heap.size, 0, none⟩ 1 1 [.int .i64 p, .int .i64 c] rfl rfl (World.news_of_block (heap_alloc_new w1 _)) (by intro u hu; simp only [List.mem_cons, List.not_mem_nil, or_false] at hu; rcases hu with rfl | rfl <;> rfl) (by unfold maxLen; omega) (by omega) (by simp; omega) ?_; intro v2 w2 hown2 hgrow2 _)); have hl0 := (Hown.out).lt; have f1 := cell_grown (OW2.out _ (Gr.al (Gr.tr (Gr.al Gr.rfl' _) hb) _)) hgrow2 (keepc (Gr.al Gr.rfl' _) e1) (fun k hk => Nat.ne_of_lt (hl0 k hk).2); have f3 := cell_grown (OW2.out _ (Gr.al (Gr.tr (Gr.al Gr.rfl' _) hb) _)) hgrow2 (keepc (Gr.al Gr.rfl' _) e3) (fun k hk => Nat.ne_of_gt (hl0 k hk).1); clear hl0; have hg2 := gr_grown (w0 := W0) (by (repeat (first | exact Gr.rfl' | refine Gr.al ?_ _ | refine Gr.dr ?_ | refine Gr.drN ?_ | refine Gr.sc ?_ (by simp <;> omega) _ | refine Gr.tr ?_ (by assumption)))) (OW2.out _ (Gr.al (Gr.tr (Gr.al Gr.rfl' _) hb) _)) hgrow2 (by rw [hsz]; exact Nat.le_refl _)))
            exact ⟨⟨k + 1, by omega, by go_num, own_cast hown2 (by rw [Ht.out, Hw.out]; simp) (by rw [Ht.out, Hw.out, encS_append]; simp [encS]), by (repeat (first | exact Gr.rfl' | refine Gr.al ?_ _ | refine Gr.dr ?_ | refine Gr.drN ?_ | refine Gr.sc ?_ (by simp <;> omega) _ | refine Gr.tr ?_ (by assumption)))⟩, by simp [intOf]; omega⟩
        · by_cases hdq : d < q
          · have Hw := Lib.hid (show woS (c, d) (p, q) = [(d, q)] by unfold woS; rw [if_neg hm', if_neg hpc, if_pos hdq]; rfl)
            go_wp2_with (first | (go_at_call 20; refine (meets_calls _ _ _ _ _).mono ?_; rintro e w1 ⟨rfl, hb⟩; have hz := hb.size; (try simp at hz); have e0 : w1.cell? ⟨wr.heap.size, 0, none⟩ = some (.int .i64 p) := keepc hb (by simp); have e1 : w1.cell? ⟨wr.heap.size, 1, none⟩ = some (.int .i64 q) := keepc hb (by simp); have e2 := keepc hb (cA2 _); have e3 := keepc hb (cB2 _)) | ((at_builtin; refine wpList_append_own _ rfl _ _ 37 rfl (w.heap.size + 1) 26 i0 _ 2 16 Try.underlying37 hi hz0 hz1 hz2 rfl (by decide) _ _ _ rfl (OW2.out _ (Gr.al (Gr.tr (Gr.al Gr.rfl' _) hb) _)) ⟨w1.heap.size, 0, none⟩ 1 1 [.int .i64 d, .int .i64 q] rfl rfl (World.news_of_block (heap_alloc_new w1 _)) (by intro u hu; simp only [List.mem_cons, List.not_mem_nil, or_false] at hu; rcases hu with rfl | rfl <;> rfl) (by unfold maxLen; omega) (by omega) (by simp; omega) ?_; intro v2 w2 hown2 hgrow2 _)))
            have hg2 := gr_grown (w0 := W0) (by (repeat (first | exact Gr.rfl' | refine Gr.al ?_ _ | refine Gr.dr ?_ | refine Gr.drN ?_ | refine Gr.sc ?_ (by simp <;> omega) _ | refine Gr.tr ?_ (by assumption)))) (OW2.out _ (Gr.al (Gr.tr (Gr.al Gr.rfl' _) hb) _)) hgrow2 (by rw [hsz]; exact Nat.le_refl _)
            exact ⟨⟨k + 1, by omega, by go_num, own_cast hown2 (by rw [Ht.out, Hw.out]; simp) (by rw [Ht.out, Hw.out, encS_append]; simp [encS]), by (repeat (first | exact Gr.rfl' | refine Gr.al ?_ _ | refine Gr.dr ?_ | refine Gr.drN ?_ | refine Gr.sc ?_ (by simp <;> omega) _ | refine Gr.tr ?_ (by assumption)))⟩, by simp [intOf]; omega⟩
          · have Hw := Lib.hid (show woS (c, d) (p, q) = [] by unfold woS; rw [if_neg hm', if_neg hpc, if_neg hdq]; rfl)
            go_wp2_with (first | (go_at_call 20; refine (meets_calls _ _ _ _ _).mono ?_; rintro e w1 ⟨rfl, hb⟩; have hz := hb.size; (try simp at hz); have e0 : w1.cell? ⟨wr.heap.size, 0, none⟩ = some (.int .i64 p) := keepc hb (by simp); have e1 : w1.cell? ⟨wr.heap.size, 1, none⟩ = some (.int .i64 q) := keepc hb (by simp); have e2 := keepc hb (cA2 _); have e3 := keepc hb (cB2 _)))
            exact ⟨⟨k + 1, by omega, by go_num, own_cast (OW2.out _ (Gr.tr (Gr.al Gr.rfl' _) hb)) (by rw [Ht.out, Hw.out]; simp) (by rw [Ht.out, Hw.out, encS_append]; simp [encS]), by (repeat (first | exact Gr.rfl' | refine Gr.al ?_ _ | refine Gr.dr ?_ | refine Gr.drN ?_ | refine Gr.sc ?_ (by simp <;> omega) _ | refine Gr.tr ?_ (by assumption)))⟩, by simp [intOf]; omega⟩
    · obtain rfl : k = l.length := by omega
      rw [List.take_length] at hown
      clear hrd
      go_wp2
      rw [Exit.noGoto_ret]
      go_ret
      exact ⟨_, rfl, own_mono hown (by omega), hG0.tr hg⟩
end Go.Proofs.Ytafdddakkenlaaa

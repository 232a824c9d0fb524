import Derived.Test.YtafdddakkenlaaaWinP
namespace Go.Proofs.Ytafdddakkenlaaa
open Go.RowKit Go.Sort
attribute [local go_sem ↓] field26_0 field26_1

theorem okP.check {c d : Int} (h : okP (c, d)) : wCheck (c, d) = 0 := wCheck_0.2 (by unfold okP at h; simp only at h; omega)

theorem add_n {pb : Nat} {l : List Sp} {c d : Int} {w : World} (h : isSet w pb l) (hn : Norm l) (hs : okP (c, d)) :
    Calls Try.prog 37 #[.pointer (some ⟨pb, 0, none⟩), .agg #[.int .i64 c, .int .i64 d]] w fun e w' => ∃ l2 : List Sp, e = .returned (.bool (decide (szS l < szS l2))) ∧ isSet w' pb l2 ∧ Norm l2 ∧ (∀ t, memS l2 t ↔ memS l t ∨ (c ≤ t ∧ t < d)) ∧ w.grownBy w' (some pb) := by
  refine (add_set h (by have := norm_len hn; omega) (norm_v hn) hs.check (by unfold okP at hs; simp only at hs; omega)).mono ?_
  rintro e w' ⟨l', hp, hso, rfl, hset, hg⟩
  obtain ⟨h1, h2⟩ := add_norm hn hs hp hso
  exact ⟨_, rfl, hset, h1, h2, hg⟩
theorem take_n {pb : Nat} {l : List Sp} {c d : Int} {w : World} (h : isSet w pb l) (hn : Norm l) (hs : wCheck (c, d) = 0) :
    Calls Try.prog 35 #[.pointer (some ⟨pb, 0, none⟩), .agg #[.int .i64 c, .int .i64 d]] w fun e w' => ∃ l2 : List Sp, e = .returned (.bool (decide (szS l2 < szS l))) ∧ isSet w' pb l2 ∧ Norm l2 ∧ (∀ t, memS l2 t ↔ memS l t ∧ ¬ (c ≤ t ∧ t < d)) ∧ w.grownBy w' (some pb) := by
  have hv : vS (c, d) := wCheck_0.1 hs
  refine (take_set h (by have := norm_len hn; omega) (norm_v hn) hs).mono ?_
  rintro e w' ⟨rfl, hset, hg⟩
  exact ⟨_, rfl, hset, withoutS_norm hn hv, withoutS_mem hn hv, hg⟩

set_option maxHeartbeats 1000000 in
theorem new_calls (v : Value) (l : List Sp) (w : World) (hv : rdRow w 2 v l.length (encS l)) (hl : ∀ x ∈ l, okP x) (hk : l.length ≤ 1000000) :
    Calls Try.prog 34 #[v] w fun e w' => ∃ (pb : Nat) (l2 : List Sp), e = .returned (.pointer (some ⟨pb, 0, none⟩)) ∧ isSet w' pb l2 ∧ Norm l2 ∧ (∀ t, memS l2 t ↔ memS l t) ∧ Gr w w' ∧ w.heap.size ≤ pb := by
  obtain ⟨_, a, cap, rfl, hcap, hrd⟩ := hv
  go_enter Try.func34, Try.ntmps34
  go_wp2_with fail
  have h0 : isSet (w.alloc (.cells #[.slice none 0 0] 62)) w.heap.size [] := ⟨none, 0, 0, heap_alloc_new w _, World.ownsRow_nil _ _ _ _⟩
  go_loopw [10] (fun i wr => ∃ k : Nat, k ≤ l.length ∧ i = .int .i64 k ∧ (∃ l2, isSet wr w.heap.size l2 ∧ Norm l2 ∧ ∀ t, memS l2 t ↔ memS (l.take k) t) ∧ Gr w wr) (fun i _ => l.length - (intOf i).toNat)
  case atStart => exact ⟨0, Nat.zero_le _, rfl, ⟨[], h0, ⟨by simp, by simp⟩, by simp⟩, by (repeat (first | exact Gr.rfl' | refine Gr.al ?_ _ | refine Gr.dr ?_ | refine Gr.drN ?_ | refine Gr.sc ?_ (by simp <;> omega) _ | refine Gr.tr ?_ (by assumption)))⟩
  case round =>
    obtain ⟨k, hkl, rfl, ⟨l2, hset, hn, hm⟩, hg⟩ := hrel
    clear h0
    by_cases hlt : k < l.length
    · obtain ⟨b, o, rfl, hc⟩ := hrd (by omega)
      have c0 := keepc hg (hc _ _ (encS_get l k hlt).1)
      have c1 := keepc hg (hc _ _ (encS_get l k hlt).2)
      rw [← Nat.add_assoc] at c1
      have hx := hl l[k] (List.getElem_mem hlt)
      have ht : ∀ t, memS (l.take (k + 1)) t ↔ memS l2 t ∨ (l[k].1 ≤ t ∧ t < l[k].2) := by
        intro t; rw [List.take_succ_eq_append_getElem hlt, memS_append, memS_cons, hm t]
        have := memS_nil t
        simp only [this, or_false]
      clear hc hrd hm
      generalize l[k] = x at c0 c1 hx ht
      obtain ⟨p, q⟩ := x
      have Ht := Lib.hid ht; clear ht
      have Hset := Lib.hid hset; clear hset
      have Hn := Lib.hid hn; clear hn
      go_wp2_with (go_at_call 37; refine (add_n (Hset.out.gr (Gr.al Gr.rfl' _)) Hn.out hx).mono ?_; rintro e w1 ⟨l3, rfl, hset1, hn1, hm1, hg1⟩; have Hset1 := Lib.hid hset1; have Hm1 := Lib.hid hm1; have Hn1 := Lib.hid hn1; clear hset1 hm1 hn1)
      go_roundw
      case rel => exact ⟨k + 1, by omega, by go_num, ⟨l3, Hset1.out, Hn1.out, fun t => by rw [Hm1.out t, Ht.out t]⟩, gr_gb (by (repeat (first | exact Gr.rfl' | refine Gr.al ?_ _ | refine Gr.dr ?_ | refine Gr.drN ?_ | refine Gr.sc ?_ (by simp <;> omega) _ | refine Gr.tr ?_ (by assumption)))) hg1 (fun k hk => by cases hk; exact Nat.le_refl _)⟩
      case measure => simp [intOf]; omega
    · obtain rfl : k = l.length := by omega
      clear hrd
      rw [List.take_length] at hm
      have Hset := Lib.hid hset; clear hset
      have Hn := Lib.hid hn; clear hn
      have Hm := Lib.hid hm; clear hm
      go_wp2
      go_ret
      exact ⟨w.heap.size, l2, rfl, Hset.out, Hn.out, Hm.out, hg, Nat.le_refl _⟩

set_option maxRecDepth 100000 in
set_option maxHeartbeats 2000000 in
theorem awake_calls (w : World) : Calls Try.prog 10 #[] w fun e w' => e = .returned (.bool true) ∧ Gr w w' := by
  go_enter Try.func10, Try.ntmps10
  go_wp2_with fail
  refine (new_calls _ [(0, 5), (5, 9)] _ ⟨rfl, _, _, rfl, by decide, fun _ => ⟨_, _, rfl, cells_at _ (by simp)⟩⟩ (by intro x hx; simp at hx; rcases hx with rfl | rfl <;> (unfold okP; simp)) (by decide)).mono ?_
  rintro e w1 ⟨pb, l1, rfl, hset1, hn1, hm1, hg1, hpb1⟩
  have hb0 : w1.cell? ⟨w.heap.size, 0, none⟩ = some (.int .i64 5) := keepc hg1 (by simp)
  have hb1 : w1.cell? ⟨w.heap.size, 1, none⟩ = some (.int .i64 25) := keepc hg1 (by simp)
  have hG1 : Gr w w1 := by (repeat (first | exact Gr.rfl' | refine Gr.al ?_ _ | refine Gr.dr ?_ | refine Gr.drN ?_ | refine Gr.sc ?_ (by simp <;> omega) _ | refine Gr.tr ?_ (by assumption)))
  have hpw : w.heap.size < pb := by simp at hpb1; omega
  have Hset1 := Lib.hid hset1
  have Hm1 := Lib.hid hm1
  have Hn1 := Lib.hid hn1
  clear hset1 hm1 hn1 hg1 hpb1
  go_wp2_with fail
  refine (take_n Hset1.out Hn1.out (by decide)).mono ?_
  rintro e w2 ⟨l2, rfl, hset2, hn2, hm2, hg2⟩
  have hb0' := hg2.cell hb0 (by simp; omega)
  have hb1' := hg2.cell hb1 (by simp; omega)
  have hG2 : Gr w w2 := gr_gb hG1 hg2 (fun k hk => by cases hk; omega)
  have hl2 : l2 = [(0, 2), (4, 9)] := by
    refine norm_ext hn2 ⟨by simp, by intro x hx; simp at hx; rcases hx with rfl | rfl <;> (unfold okP; simp)⟩ (fun t => ?_)
    rw [hm2 t, Hm1.out t]
    simp only [memS_cons]
    have := memS_nil t
    simp only [this, or_false]
    omega
  subst hl2
  clear hb0 hb1 hG1 hm2 hn2 hg2
  have Hset2 := Lib.hid hset2; clear hset2
  go_wp2_with fail
  refine (spans_set Hset2.out (by decide)).mono ?_
  rintro e w3 ⟨v3, rfl, hown3, hb⟩
  have hG3 := hG2.tr hb
  have hd0 := keepc hb hb0'
  have hd1 := keepc hb hb1'
  obtain ⟨g, cap, hv3, _, hgl⟩ := own_at hown3 (by decide)
  subst hv3
  have k0 := hown3.cellAt 0 (by decide)
  have k1 := hown3.cellAt 1 (by decide)
  have k2 := hown3.cellAt 2 (by decide)
  have k3 := hown3.cellAt 3 (by decide)
  clear hown3 hb0' hb1' hG2 Hset2 Hset1 Hm1 Hn1
  simp [encS] at k0 k1 k2 k3
  have q1 : wStart 3599 3 = 0 := by decide
  have q2 : wStart 61 2 = 60 := by decide
  have q3 : wStart (-1) 1 = -1 := by decide
  have q4 : wCover (5, 25) 1 = (0, 30) := by decide
  have q5 : wInner (5, 25) 1 = (10, 20) := by decide
  have q6 : wCount (5, 25) 1 = 3 := by decide
  go_wp2_with (first | (go_at_call 13; refine (start_calls _ _ _).mono ?_; rintro e w' ⟨rfl, rfl⟩) | (go_at_call 28; refine (cover_calls _ _ _ _).mono ?_; rintro e w1 ⟨rfl, hb⟩; have hG3 := hG3.tr hb; have hd0 := keepc hb hd0; have hd1 := keepc hb hd1; have k0 := keepc hb k0; have k1 := keepc hb k1; have k2 := keepc hb k2; have k3 := keepc hb k3) | (go_at_call 30; refine (inner_calls _ _ _ _).mono ?_; rintro e w1 ⟨rfl, hb⟩; have hG3 := hG3.tr hb; have hd0 := keepc hb hd0; have hd1 := keepc hb hd1; have k0 := keepc hb k0; have k1 := keepc hb k1; have k2 := keepc hb k2; have k3 := keepc hb k3) | (go_at_call 32; refine (count_calls _ _ _ _).mono ?_; rintro e w1 ⟨rfl, hb⟩; have hG3 := hG3.tr hb; have hd0 := keepc hb hd0; have hd1 := keepc hb hd1; have k0 := keepc hb k0; have k1 := keepc hb k1; have k2 := keepc hb k2; have k3 := keepc hb k3))
  go_ret
  exact ⟨rfl, by (repeat (first | exact Gr.rfl' | refine Gr.al ?_ _ | refine Gr.dr ?_ | refine Gr.drN ?_ | refine Gr.sc ?_ (by simp <;> omega) _ | refine Gr.tr ?_ (by assumption)))⟩
end Go.Proofs.Ytafdddakkenlaaa

/- Package mark: plain. -/
import Derived.Test.YtnneebdcaefgoaaCaC
namespace Go.Proofs.Ytnneebdcaefgoaa
open Go.RowKit
attribute [local go_sem] max2_mx min2_mn max_two' min_two'

/-- n cells that may be written. -/
def Fn (w : World) (B n : Nat) (f : Nat → Int) : Prop := ∀ m : Nat, m < n → w.cell? ⟨B, m, none⟩ = some (.int .i64 (f m)) ∧ w.frozen? ⟨B, m, none⟩ = false
theorem Fn.set {w : World} {B n : Nat} {f g : Nat → Int} (h : Fn w B n f) {m : Nat} (x : Int) (hx : g m = x) (hg : ∀ k : Nat, k ≠ m → g k = f k) : Fn (w.setCell ⟨B, m, none⟩ (.int .i64 x)) B n g := by
  intro k hk
  rw [World.frozen?_setCell]
  refine ⟨?_, (h k hk).2⟩
  by_cases e : k = m
  · subst e; rw [World.cell?_setCell_same _ _ _ (h k hk).1, hx]
  · rw [World.cell?_setCell_other _ ⟨B, m, none⟩ ⟨B, k, none⟩ _ (by intro q; injection q with _ q2; omega), (h k hk).1, hg k e]
theorem Fn.gr {w w1 : World} {B n : Nat} {f : Nat → Int} (h : Fn w B n f) (hg : Gr w w1) : Fn w1 B n f := fun m hm => ⟨keepc hg (h m hm).1, keepf hg (h m hm).1 (h m hm).2⟩
theorem fn_of_own {w : World} {base g c T : Nat} {l : List Int} (h : w.ownsRow base T 1 (.slice (some ⟨g, 0, none⟩) l.length c) l.length (encI l)) (f : Nat → Int) (hf : ∀ j (hj : j < l.length), f j = l[j]) : Fn w g l.length f := by
  intro m hm
  have h1 := rd_at (rdRow_of_own h)
  obtain ⟨a, cap, e, _, hc⟩ := h1
  obtain ⟨b, o, ha, hc⟩ := hc (by omega)
  cases e; cases ha
  have h2 := hc m hm
  rw [Nat.zero_add] at h2
  refine ⟨by rw [h2, hf m hm], ?_⟩
  rcases h.2 with ⟨e, _⟩ | ⟨g', cap', cur, e, _, hb, _⟩
  · cases e
  · cases e; exact frozen_of_row _ _ _ _ _ hb
theorem rd_of_fn {w : World} {g n c : Nat} {a : Option Addr} {f : Nat → Int} (l : List Int) (hl : l.length = n) (hc : n ≤ c) (ha : 0 < n → a = some ⟨g, 0, none⟩) (h : Fn w g n f) (hf : ∀ j (hj : j < l.length), l[j] = f j) : rdRow w 1 (.slice a n c) l.length (encI l) := by
  subst hl
  refine ⟨by simp [encI_map], a, c, rfl, hc, fun h0 => ⟨g, 0, ha h0, fun j u hu => ?_⟩⟩
  have hj : j < l.length := by
    rcases Nat.lt_or_ge j l.length with h1 | h1
    · exact h1
    · rw [encI_map, List.getElem?_eq_none (by simpa using h1)] at hu; cases hu
  rw [encI_get hj] at hu
  cases hu
  rw [Nat.zero_add, hf j hj]
  exact (h j hj).1
theorem rd_cut {w : World} {a : Option Addr} {n cap m : Nat} {l : List Int} (h : rdRow w 1 (.slice a n cap) l.length (encI l)) (hm : m ≤ l.length) : rdRow w 1 (.slice a m m) (l.take m).length (encI (l.take m)) := by
  have hl : (l.take m).length = m := by rw [List.length_take]; omega
  have h0 := rd_take h hm
  rw [hl] at h0 ⊢
  obtain ⟨h1, a', c', e, _, h3⟩ := h0
  cases e
  exact ⟨h1, a, m, rfl, Nat.le_refl _, h3⟩
def clTo (v : List Int) (k : Nat) (i : Nat) : Int := if i < k then at8 v i else v.getD i 0
theorem clTo_succ (v : List Int) (k : Nat) : clTo v (k + 1) k = at8 v k ∧ ∀ j, j ≠ k → clTo v (k + 1) j = clTo v k j := by
  unfold clTo
  refine ⟨by rw [if_pos (by omega)], fun j hj => ?_⟩
  by_cases h : j < k
  · rw [if_pos h, if_pos (by omega)]
  · rw [if_neg h, if_neg (by omega)]
theorem take_getD {v : List Int} {n j : Nat} (h : j < n) : (v.take n).getD j 0 = v.getD j 0 := by
  unfold List.getD; rw [List.getElem?_take, if_pos h]
set_option maxRecDepth 100000 in
set_option maxHeartbeats 2000000 in
theorem plain_calls (v : Value) (l : List Int) (w : World) (hv : rdRow w 1 v l.length (encI l)) (hk : l.length ≤ 1000000) :
    Calls Try.prog 54 #[v] w fun e w' => ∃ a g, e = .returned (.slice a (plainV l).length (plainV l).length) ∧ (0 < (plainV l).length → a = some ⟨g, 0, none⟩) ∧ w.heap.size ≤ g ∧ Fn w' g (plainV l).length (at8 l) ∧ Gr w w' := by
  obtain ⟨n0, hn0⟩ : ∃ n0, min l.length 8 = n0 := ⟨_, rfl⟩
  have hmn : mn (l.length : Int) 8 = n0 := by rw [mn_eq]; omega
  have hnl : n0 ≤ l.length := by omega
  have hn8 : n0 ≤ 8 := by omega
  have hlen : (plainV l).length = slen (at8 l) n0 := by
    unfold plainV; rw [vecOf_len]
    exact slen_stop (fun j h1 h2 => at8_out (by omega)) hn8
  have hcut : ∀ a cap, v = .slice a l.length cap → rdRow w 1 (.slice a n0 n0) (l.take n0).length (encI (l.take n0)) := fun a cap e => by subst e; exact rd_cut hv hnl
  obtain ⟨_, a, cap, rfl, hcap, _⟩ := hv
  replace hcut := hcut a cap rfl
  have hln : (l.take n0).length = n0 := by rw [List.length_take]; omega
  have hcl := clone_calls _ _ w hcut (by omega)
  rw [hln] at hcl
  have Hcl := Lib.hid hcl
  rw [hlen]
  have Hz0 := Lib.hid (slen_zero (at8 l) n0); have Hlast := Lib.hid (slen_last (at8 l) n0); have Hsl := slen_le (at8 l) n0
  clear hcl hcut hlen hn0
  have g1 : (n0 : Int) ≤ cap := by omega
  have g0 : (0 : Int) ≤ n0 := by omega
  go_enter Try.func54, Try.ntmps54
  go_wp2_with fail
  refine Hcl.out.mono ?_
  rintro e w1 ⟨v1, rfl, hown, hb⟩
  obtain ⟨a1, c1, rfl⟩ := own_slice hown
  have hc1 : n0 ≤ c1 := by
    obtain ⟨_, a, c, e, h, _⟩ := rdRow_of_own hown; cases e; exact h
  obtain ⟨g, ha1, hgz, hF⟩ : ∃ g, (0 < n0 → a1 = some ⟨g, 0, none⟩) ∧ w.heap.size ≤ g ∧ Fn w1 g n0 (clTo l 0) := by
    by_cases h0 : 0 < n0
    · obtain ⟨g, c, e, h1, _⟩ := own_at hown h0
      cases e
      refine ⟨g, fun _ => rfl, h1, ?_⟩
      have := fn_of_own (l := l.take n0) (by rw [hln]; exact hown) (clTo l 0) (fun j hj => by
        have h2 : j < n0 := by rw [hln] at hj; exact hj
        unfold clTo; rw [if_neg (by omega), ← take_getD h2, List.getD, List.getElem?_eq_getElem hj]; rfl)
      rwa [hln] at this
    · exact ⟨w.heap.size, fun h => absurd h h0, Nat.le_refl _, fun m hm => by omega⟩
  clear hown Hcl hln
  go_wp2_with fail
  go_loopw [4, 5, 16] (fun _ _ i wr => ∃ k : Nat, k ≤ n0 ∧ i = .int .i64 k ∧ Fn wr g n0 (clTo l k) ∧ Gr w wr) (fun _ _ i _ => n0 - (intOf i).toNat)
  case atStart => exact ⟨0, Nat.zero_le _, rfl, hF, hb⟩
  case round =>
    obtain ⟨k, hk1, rfl, hf, hg⟩ := hrel
    clear hF hb
    by_cases hlt : k < n0
    · obtain rfl := ha1 (by omega)
      have h1 : (k : Int) < n0 := by omega
      have h0 : (0 : Int) ≤ k := by omega
      have c0 := (hf k hlt).1
      have f0 := (hf k hlt).2
      have e0 : clTo l k k = l.getD k 0 := by unfold clTo; rw [if_neg (by omega)]
      have Hat := Lib.hid (show clN (l.getD k 0) = at8 l k from rfl)
      have Hsu := Lib.hid (clTo_succ l k)
      rw [e0] at c0
      clear e0
      have Hf := Lib.hid hf; have Hg := Lib.hid hg
      clear hf hg
      generalize l.getD k 0 = x at *
      have Hx := Lib.hid (clN_mn x)
      go_wp2_with fail
      go_roundw
      case rel =>
        have := Hx.out
        unfold topN at this
        exact ⟨k + 1, by omega, by go_num, Hf.out.set _ (by rw [Hsu.out.1, ← Hat.out, ← this]) Hsu.out.2, Gr.sc Hg.out (by exact hgz) _⟩
      case measure => simp [intOf]; omega
    · obtain rfl : k = n0 := by omega
      have hF2 : Fn wr g k (at8 l) := fun m hm => by
        have := hf m hm
        unfold clTo at this
        rwa [if_pos hm] at this
      clear hf
      go_wp2_with fail
      go_loopw [3] (fun n wx => ∃ m : Nat, m ≤ k ∧ n = .int .i64 m ∧ slen (at8 l) k ≤ m ∧ (∀ j, m ≤ j → j < k → at8 l j = 0) ∧ wr = wx) (fun n _ => (intOf n).toNat)
      case atStart => exact ⟨k, Nat.le_refl _, rfl, Hsl, fun j h1 h2 => by omega, rfl⟩
      case round =>
        obtain ⟨m, hm, rfl, hsm, hz, rfl⟩ := hrel
        have Hg := Lib.hid hg
        clear hg
        rcases Nat.eq_zero_or_pos m with rfl | hpos
        · obtain he : slen (at8 l) k = 0 := by omega
          have Hr := Lib.hid he
          go_wp2_with fail
          go_ret
          rw [he]
          exact ⟨a1, g, rfl, fun h => absurd h (by omega), hgz, fun m hm => absurd hm (by omega), Hg.out⟩
        · obtain ⟨p, rfl⟩ : ∃ p, m = p + 1 := ⟨m - 1, by omega⟩
          obtain rfl := ha1 (by omega)
          have c0 := (hF2 p (by omega)).1
          have h1 : (0 : Int) < ((p + 1 : Nat) : Int) := by omega
          have h2 : (0 : Int) ≤ p := by omega
          have h3 : (p : Int) < k := by omega
          have hsub : ((p + 1 : Nat) : Int) - 1 = p := by omega
          have Hz := Lib.hid hz
          clear hz
          by_cases hx : at8 l p = 0
          · have hsp : slen (at8 l) k ≤ p := by
              rcases Nat.lt_or_ge (slen (at8 l) k) (p + 1) with h | h
              · omega
              · exact absurd hx (Hlast.out p (by omega))
            have Hx := Lib.hid hx
            rw [hx] at c0
            clear hx
            go_wp2_with fail
            go_roundw
            case rel => exact ⟨p, by omega, by go_num, hsp, fun j h1 h2 => by
              by_cases e : j = p
              · rw [e]; exact Hx.out
              · exact Hz.out j (by omega) h2, trivial⟩
            case measure => simp [intOf]
          · have he : slen (at8 l) k = p + 1 := by
              rcases Nat.lt_or_ge (slen (at8 l) k) (p + 1) with h | h
              · exact absurd (Hz0.out p (by omega) (by omega)) hx
              · omega
            have Hr := Lib.hid he
            clear he hsm
            generalize hxx : at8 l p = x at *
            have hxe : (x == 0) = false := by simp [hx]
            clear hxx hx
            have g5 : ((p + 1 : Nat) : Int) ≤ c1 := by omega
            have g6 : (0 : Int) ≤ ((p + 1 : Nat) : Int) := by omega
            go_wp2_with fail
            go_ret
            rw [Hr.out]
            exact ⟨_, rfl, g, fun _ => rfl, hgz, fun m hm => hF2 m (by omega), Hg.out⟩
end Go.Proofs.Ytnneebdcaefgoaa

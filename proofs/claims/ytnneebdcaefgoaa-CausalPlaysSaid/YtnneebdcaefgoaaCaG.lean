/- Package mark: With. -/
import Derived.Test.YtnneebdcaefgoaaCaF
import Derived.ArgAppend
namespace Go.Proofs.Ytnneebdcaefgoaa
open Go.RowKit

/-- A vector's numbers in cells of the call's own: nothing is free behind them, or the row is the call's own. -/
def AP (w : World) (base : Nat) (f : Nat → Int) (p : Value) (n : Nat) : Prop :=
  (∃ a g, p = .slice a n n ∧ (0 < n → a = some ⟨g, 0, none⟩) ∧ base ≤ g ∧ Fn w g n f) ∨ w.ownsRow base 3 1 p n (encI (preN f n))
theorem AP.out {w : World} {base n : Nat} {f : Nat → Int} {p : Value} (h : AP w base f p n) : ∃ a g c, p = .slice a n c ∧ n ≤ c ∧ (0 < n → a = some ⟨g, 0, none⟩) ∧ base ≤ g ∧ Fn w g n f := by
  rcases h with ⟨a, g, e, h1, h2, h3⟩ | h
  · exact ⟨a, g, n, e, Nat.le_refl _, h1, h2, h3⟩
  · obtain ⟨a, c, rfl⟩ := own_slice h
    have hc : n ≤ c := by obtain ⟨_, a', c', e, h, _⟩ := rdRow_of_own h; cases e; exact h
    by_cases h0 : 0 < n
    · obtain ⟨g, c, e, h1, _⟩ := own_at h h0
      cases e
      refine ⟨_, g, _, rfl, hc, fun _ => rfl, h1, ?_⟩
      have h' : w.ownsRow base 3 1 (.slice (some ⟨g, 0, none⟩) (preN f n).length c) (preN f n).length (encI (preN f n)) := by rw [preN_len]; exact h
      have := fn_of_own h' f (fun j hj => by simp [preN])
      rwa [preN_len] at this
    · exact ⟨a, base, c, rfl, hc, fun h => absurd h h0, Nat.le_refl _, fun m hm => by omega⟩
def setF (l : List Int) (m : Nat) (n : Int) (j : Nat) : Int := if j = m then n else at8 l j
theorem set_plain (l : List Int) (m : Nat) (n : Int) {k : Nat} (hk : slen (at8 l) 8 ≤ k) (_ : k ≤ 8) (hm : m < k) : plainV (preN (setF l m n) k) = withV l m n := vecOf_congr fun j hj => by
  have e : (preN (setF l m n) k).getD j 0 = if j < k then setF l m n j else 0 := by
    by_cases h : j < k
    · simp [preN, List.getD, h]
    · simp [preN, List.getD, h]
  show clN _ = _
  rw [e]
  unfold setF withF
  by_cases h1 : j = m
  · rw [if_pos (by omega), if_pos h1, if_pos (by omega)]
  · by_cases h2 : j < k
    · rw [if_pos h2, if_neg h1, if_neg (by omega), clN_id (at8_nn l j)]
    · rw [if_neg h2, if_neg (by omega), slen_zero (at8 l) 8 j (by omega) hj]; rfl
set_option maxRecDepth 100000 in
set_option maxHeartbeats 2000000 in
theorem with_calls (v : Value) (l : List Int) (s n : Int) (w : World) (hv : rdRow w 1 v l.length (encI l)) (hk : l.length ≤ 1000000) :
    Calls Try.prog 39 #[v, .int .i64 s, .int .i64 n] w fun e w' => ∃ v', e = .returned v' ∧ rdX (Fresh w) w' v' (withV l s n) ∧ Gr w w' := by
  by_cases hs : 0 ≤ s ∧ s < 8
  · obtain ⟨m, rfl⟩ := Int.eq_ofNat_of_zero_le hs.1
    have hm : m < 8 := by omega
    have g1 : ¬ ((m : Int) < 0) := by omega
    have g2 : ¬ ((8 : Int) ≤ m) := by omega
    clear hs
    have H := Lib.hid (plain_calls v l w hv hk)
    have hlen : (plainV l).length = slen (at8 l) 8 := vecOf_len _
    have h8 := plainV_le l
    rw [hlen] at H h8
    have Hz := Lib.hid (slen_zero (at8 l) 8)
    have Hsp := Lib.hid (fun k h1 h2 h3 => set_plain l m n (k := k) h1 h2 h3)
    clear hv hlen
    obtain ⟨i0, hi, hz0, hz1, hz2⟩ := info_parts infoInt
    go_enter Try.func39, Try.ntmps39
    go_wp2_with fail
    refine H.out.mono ?_
    rintro e w1 ⟨a1, g0, rfl, ha1, hg0, hF, hb⟩
    have HAP := Lib.hid (show AP w1 w.heap.size (at8 l) (.slice a1 (slen (at8 l) 8) (slen (at8 l) 8)) (slen (at8 l) 8) from .inl ⟨a1, g0, rfl, ha1, hg0, hF⟩)
    clear ha1 hg0 hF
    have Hb := Lib.hid hb
    clear hb
    go_wp2_with fail
    generalize hN : slen (at8 l) 8 = N at *
    clear hN
    go_loopw [7] (fun p wr => ∃ k : Nat, k ≤ 8 ∧ N ≤ k ∧ AP wr w.heap.size (at8 l) p k ∧ Gr w wr) (fun p _ => m + 1 - (match p with | .slice _ n _ => n | _ => 0))
    case atStart => exact ⟨N, h8, Nat.le_refl _, HAP.out, Hb.out⟩
    case round =>
      obtain ⟨k, hk8, hNk, hap, hg⟩ := hrel
      clear HAP Hb
      have Hg := Lib.hid hg
      have hgz := hg.size
      clear hg
      by_cases hkm : k ≤ m
      · have g3 : (k : Int) ≤ m := by omega
        have hnews := World.news_of_block (heap_alloc_new wr (.cells #[.int .i64 0] 3))
        have hsu : encI (preN (at8 l) (k + 1)) = encI (preN (at8 l) k) ++ [.int .i64 0] := by rw [preN_succ, Hz.out k hNk (by omega)]
        have Hsu := Lib.hid hsu
        clear hsu
        rcases hap with ⟨a, g, rfl, ha, hbg, hF⟩ | hown
        · have hcells : ∀ b, a = some b → ∀ j u, (encI (preN (at8 l) k))[j]? = some u → (wr.alloc (.cells #[.int .i64 0] 3)).cell? (b.add j) = some u := by
            intro b hab j u hu
            have hj : j < k := by
              rcases Nat.lt_or_ge j k with h | h
              · exact h
              · rw [encI_map, List.getElem?_eq_none (by simpa [preN] using h)] at hu; cases hu
            rw [ha (by omega)] at hab
            cases hab
            have h2 := (hF j hj).1
            rw [encI_get (by rw [preN_len]; exact hj)] at hu
            cases hu
            rw [Addr.add_mid, Nat.zero_add]
            refine keepc (Gr.al Gr.rfl' _) ?_
            rw [h2]; simp [preN]
          have Hcells := Lib.hid hcells
          have Hnone := Lib.hid (show a = none → k = 0 ∧ k = 0 from fun e => by
            rcases Nat.eq_zero_or_pos k with h | h
            · exact ⟨h, h⟩
            · rw [ha h] at e; cases e)
          clear hcells ha hF
          go_wp2_with (at_builtin; refine wpList_append_grows _ rfl _ _ 31 rfl 3 i0 _ 1 8 Try.underlying31 hi hz0 hz1 hz2 rfl (by decide) a k k (encI (preN (at8 l) k)) rfl Hnone.out (by rw [encI_map, List.length_map, preN_len, Nat.mul_one]) Hcells.out ⟨wr.heap.size, 0, none⟩ 1 1 [.int .i64 0] rfl rfl hnews (by intro u hu; simp only [List.mem_cons, List.not_mem_nil, or_false] at hu; subst hu; rfl) (by omega) (by unfold maxLen; omega) (by omega) ?_; intro v3 w3 hown3 hgrow3)
          obtain ⟨ua3, uc3, hu⟩ := own_slice hown3
          subst hu
          go_roundw
          case rel => exact ⟨k + 1, by omega, by omega, .inr (by rw [Hsu.out]; exact own_mono hown3 (by simp; omega)), gr_gb (Gr.al Hg.out _) hgrow3 (fun j hj => by cases hj)⟩
          case measure => simp; omega
        · obtain ⟨ua2, uc2, hu⟩ := own_slice hown
          subst hu
          have Hown := Lib.hid hown
          clear hown
          go_wp2_with (at_builtin; refine wpList_append_own _ rfl _ _ 31 rfl w.heap.size 3 i0 _ 1 8 Try.underlying31 hi hz0 hz1 hz2 rfl (by decide) _ _ _ rfl (Hown.out.alloc _) ⟨wr.heap.size, 0, none⟩ 1 1 [.int .i64 0] rfl rfl hnews (by intro u hu; simp only [List.mem_cons, List.not_mem_nil, or_false] at hu; subst hu; rfl) (by unfold maxLen; omega) (by omega) (by simp; omega) ?_; intro v3 w3 hown3 hgrow3 _)
          obtain ⟨ua3, uc3, hu⟩ := own_slice hown3
          subst hu
          go_roundw
          case rel => exact ⟨k + 1, by omega, by omega, .inr (by rw [Hsu.out]; exact hown3), gr_gb (Gr.al Hg.out _) hgrow3 (fun j hj => (Hown.out.lt j hj).1)⟩
          case measure => simp; omega
      · obtain ⟨a, g, c, rfl, hc, ha, hbg, hF⟩ := hap.out
        obtain rfl := ha (by omega)
        have c0 := (hF m (by omega)).1
        have f0 := (hF m (by omega)).2
        have hF2 : Fn (wr.setCell ⟨g, m, none⟩ (.int .i64 n)) g k (setF l m n) := hF.set n (by simp [setF]) (fun j hj => by simp [setF, hj])
        have hG2 : Gr w (wr.setCell ⟨g, m, none⟩ (.int .i64 n)) := Gr.sc Hg.out (by exact hbg) _
        have hp := plain_fr _ (preN (setF l m n) k) (wr.setCell ⟨g, m, none⟩ (.int .i64 n)) (rd_of_fn (a := some ⟨g, 0, none⟩) (c := c) _ (preN_len _ _) hc (fun _ => rfl) hF2 (fun j hj => by simp [preN])) (by rw [preN_len]; omega)
        rw [Hsp.out k hNk hk8 (by omega)] at hp
        have Hp := Lib.hid hp; have HG := Lib.hid hG2
        clear hap ha hF hF2 hG2 hp
        have g3 : ¬ ((k : Int) ≤ m) := by omega
        have g4 : (m : Int) < k := by omega
        have g5 : (0 : Int) ≤ m := by omega
        go_wp2_with fail
        refine Hp.out.mono ?_
        rintro e w3 ⟨v3, rfl, ho, hb⟩
        have Ho := Lib.hid ho; have Hb3 := Lib.hid (HG.out.tr hb)
        clear ho hb
        go_wp2_with fail
        go_ret
        exact ⟨_, rfl, Ho.out.mono (fun k hk => Nat.lt_of_lt_of_le hk HG.out.size), Hb3.out⟩
  · have hE : withV l s n = plainV l := vecOf_congr fun k hk => by unfold withF; rw [if_neg (by omega)]
    rw [hE]
    have H := Lib.hid (plain_fr v l w hv hk)
    have h2 : s < 0 ∨ ¬ s < 0 ∧ 8 ≤ s := by omega
    clear hs hE hv
    rcases h2 with h2 | ⟨h2, h3⟩
    all_goals
      go_enter Try.func39, Try.ntmps39
      go_wp2_with fail
      refine H.out.mono ?_
      rintro e w1 ⟨v1, rfl, ho, hb⟩
      have Ho := Lib.hid ho; have Hb := Lib.hid hb
      clear ho hb
      go_wp2_with fail
      go_ret
      exact ⟨_, rfl, Ho.out, Hb.out⟩
end Go.Proofs.Ytnneebdcaefgoaa

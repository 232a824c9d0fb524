/- Package mark: Right, At, Join, Covers, With. -/
import Derived.Test.YtnneebdcaefgoaaCaE
import Derived.ArgAppend
namespace Go.Proofs.Ytnneebdcaefgoaa
open Go.RowKit
attribute [local go_sem] max2_mx min2_mn max_two' min_two'

/-- A row that is read, in no block of X. -/
def rdX (X : Nat → Prop) (w : World) (v : Value) (l : List Int) : Prop := rdRow w 1 v l.length (encI l) ∧ ∀ a n c, v = .slice (some a) n c → 0 < l.length → ¬ X a.block
theorem rdX.mono {X Y : Nat → Prop} {w : World} {v : Value} {l : List Int} (h : rdX X w v l) (hy : ∀ k, Y k → X k) : rdX Y w v l := ⟨h.1, fun a n c e h0 hk => h.2 a n c e h0 (hy _ hk)⟩
theorem rdX.gr {X : Nat → Prop} {w w1 : World} {v : Value} {l : List Int} (h : rdX X w v l) (hg : Gr w w1) : rdX X w1 v l := ⟨h.1.gr hg, h.2⟩
abbrev Fresh (w : World) (k : Nat) : Prop := k < w.heap.size
theorem plainV_get (l : List Int) (j : Nat) (h : j < (plainV l).length) : (plainV l)[j] = at8 l j := vecOf_get _ h
theorem plain_rd (v : Value) (l : List Int) (w : World) (hv : rdRow w 1 v l.length (encI l)) (hk : l.length ≤ 1000000) :
    Calls Try.prog 54 #[v] w fun e w' => ∃ v', e = .returned v' ∧ rdRow w' 1 v' (plainV l).length (encI (plainV l)) ∧ Gr w w' :=
  (plain_calls v l w hv hk).mono fun _ _ ⟨_, _, he, ha, _, hF, hg⟩ => ⟨_, he, rd_of_fn (plainV l) rfl (Nat.le_refl _) ha hF (fun j hj => plainV_get l j hj), hg⟩
theorem plain_fr (v : Value) (l : List Int) (w : World) (hv : rdRow w 1 v l.length (encI l)) (hk : l.length ≤ 1000000) :
    Calls Try.prog 54 #[v] w fun e w' => ∃ v', e = .returned v' ∧ rdX (Fresh w) w' v' (plainV l) ∧ Gr w w' :=
  (plain_calls v l w hv hk).mono fun _ _ ⟨a, g, he, ha, hgz, hF, hg⟩ => ⟨_, he, ⟨rd_of_fn (plainV l) rfl (Nat.le_refl _) ha hF (fun j hj => plainV_get l j hj), fun a' n c e h0 hk => by
    have e1 := ha h0
    injection e with e2
    rw [e1] at e2
    injection e2 with e3
    subst e3
    exact absurd hk (by show ¬ g < _; omega)⟩, hg⟩
theorem right_calls (v : Value) (l : List Int) (w : World) (hv : rdRow w 1 v l.length (encI l)) (hk : l.length ≤ 1000000) :
    Calls Try.prog 52 #[v] w fun e w' => e = .returned (.bool (decide (l = plainV l))) ∧ Gr w w' := by
  have hp := plain_rd v l w hv hk
  have hs := fun v' W h hg => equal_calls v v' l (plainV l) W (hv.gr hg) h hk
  have Hp := Lib.hid hp; have Hs := Lib.hid hs
  clear hp hs hv
  go_enter Try.func52, Try.ntmps52
  go_wp2_with fail
  refine Hp.out.mono ?_
  rintro e w1 ⟨v1, rfl, ho, hb⟩
  have hs1 := Hs.out v1 w1 ho hb
  clear ho
  go_wp2_with fail
  refine hs1.mono ?_
  rintro e w2 ⟨rfl, hb2⟩
  clear hs1
  go_wp2_with fail
  go_ret
  exact ⟨rfl, hb.tr hb2⟩
theorem atV_plain (l : List Int) (s : Int) : (s < 0 ∧ atV l s = 0) ∨ (¬ s < 0 ∧ ((plainV l).length : Int) ≤ s ∧ atV l s = 0) ∨ (∃ m : Nat, s = m ∧ ∃ h : m < (plainV l).length, atV l s = (plainV l)[m]) := by
  have h8 := plainV_le l
  by_cases h : s < 0
  · left; exact ⟨h, by unfold atV; rw [if_neg (by omega)]⟩
  · right
    obtain ⟨m, rfl⟩ := Int.eq_ofNat_of_zero_le (Int.not_lt.1 h)
    by_cases hm : m < (plainV l).length
    · right; exact ⟨m, rfl, hm, by rw [plainV_get, atV_in l (by omega)]⟩
    · left
      refine ⟨h, by omega, ?_⟩
      by_cases h2 : m < 8
      · rw [atV_in l h2]
        have e : (plainV l).length = slen (at8 l) 8 := vecOf_len _
        exact slen_zero (at8 l) 8 m (by omega) h2
      · unfold atV; rw [if_neg (by omega)]
theorem at_calls (v : Value) (l : List Int) (s : Int) (w : World) (hv : rdRow w 1 v l.length (encI l)) (hk : l.length ≤ 1000000) :
    Calls Try.prog 35 #[v, .int .i64 s] w fun e w' => e = .returned (.int .i64 (atV l s)) ∧ Gr w w' := by
  have hp := plain_rd v l w hv hk
  have Hp := Lib.hid hp
  clear hp hv
  rcases atV_plain l s with ⟨h1, hr⟩ | ⟨h1, h2, hr⟩ | ⟨m, rfl, hm, hr⟩
  · rw [hr]
    clear hr
    go_enter Try.func35, Try.ntmps35
    go_wp2_with fail
    refine Hp.out.mono ?_
    rintro e w1 ⟨v1, rfl, ho, hb⟩
    clear ho
    go_wp2_with fail
    go_ret
    exact ⟨rfl, hb⟩
  · rw [hr]
    clear hr
    go_enter Try.func35, Try.ntmps35
    go_wp2_with fail
    refine Hp.out.mono ?_
    rintro e w1 ⟨v1, rfl, ho, hb⟩
    obtain ⟨_, a1, c1, rfl, _, _⟩ := ho
    go_wp2_with fail
    go_ret
    exact ⟨rfl, hb⟩
  · rw [hr]
    clear hr
    generalize plainV l = P at *
    obtain ⟨x, hx⟩ : ∃ x, P[m] = x := ⟨_, rfl⟩
    rw [hx]
    have Hx := Lib.hid hx
    clear hx
    have g1 : (m : Int) < P.length := by omega
    have g2 : (0 : Int) ≤ m := by omega
    have g3 : ¬ ((P.length : Int) ≤ m) := by omega
    go_enter Try.func35, Try.ntmps35
    go_wp2_with fail
    refine Hp.out.mono ?_
    rintro e w1 ⟨v1, rfl, ho, hb⟩
    obtain ⟨a, c, rfl, hc, hcells⟩ := rd_at ho
    obtain ⟨b, o, rfl, hcl⟩ := hcells (by omega)
    have c0 := hcl m hm
    rw [Hx.out] at c0
    clear ho hcells hcl
    go_wp2_with fail
    go_ret
    exact ⟨rfl, hb⟩
theorem join1_calls (x y : Int) (w : World) : Calls Try.prog 49 #[.int .i64 x, .int .i64 y] w fun e w' => e = .returned (.int .i64 (mx x y)) ∧ w = w' := by
  go_enter Try.func49, Try.ntmps49
  go_wp2_with fail
  go_ret
  exact ⟨rfl, rfl⟩
def joinTo (a b : List Int) (k : Nat) (i : Nat) : Int := if i < k then joinF a b i else 0
theorem joinTo_succ (a b : List Int) (k : Nat) : joinTo a b (k + 1) k = joinF a b k ∧ ∀ j, j ≠ k → joinTo a b (k + 1) j = joinTo a b k j := by
  unfold joinTo
  refine ⟨by rw [if_pos (by omega)], fun j hj => ?_⟩
  by_cases h : j < k
  · rw [if_pos h, if_pos (by omega)]
  · rw [if_neg h, if_neg (by omega)]
def joinL (a b : List Int) : List Int := (List.range 8).map (joinF a b)
theorem joinL_plain (a b : List Int) : plainV (joinL a b) = joinV a b := vecOf_congr fun j hj => by
  unfold at8 joinL
  have : ((List.range 8).map (joinF a b)).getD j 0 = joinF a b j := by simp [List.getD, hj]
  rw [this, clN_id (joinF_nn a b j)]
set_option maxRecDepth 100000 in
set_option maxHeartbeats 2000000 in
theorem each_calls (v1 v2 : Value) (a b : List Int) (w : World) (h1 : rdRow w 1 v1 a.length (encI a)) (h2 : rdRow w 1 v2 b.length (encI b)) (hk1 : a.length ≤ 1000000) (hk2 : b.length ≤ 1000000) :
    Calls Try.prog 48 #[v1, v2, .func (.func 49) #[] #[]] w fun e w' => ∃ v', e = .returned v' ∧ rdX (Fresh w) w' v' (joinV a b) ∧ Gr w w' := by
  have H1 := Lib.hid (fun s W hg => at_calls v1 a s W (h1.gr hg) hk1)
  have H2 := Lib.hid (fun s W hg => at_calls v2 b s W (h2.gr hg) hk2)
  have hA0 := arr_new w 70 (joinTo a b 0)
  clear h1 h2
  go_enter Try.func48, Try.ntmps48
  go_wp2_with fail
  have hG0 : Gr w (w.alloc (.cells #[.int .i64 0, .int .i64 0, .int .i64 0, .int .i64 0, .int .i64 0, .int .i64 0, .int .i64 0, .int .i64 0] 70)) := by (repeat (first | exact Gr.rfl' | refine Gr.al ?_ _ | refine Gr.dr ?_ | refine Gr.drN ?_ | refine Gr.sc ?_ (by simp <;> omega) _ | refine Gr.tr ?_ (by assumption)))
  have hA0' : Arr (w.alloc (.cells #[.int .i64 0, .int .i64 0, .int .i64 0, .int .i64 0, .int .i64 0, .int .i64 0, .int .i64 0, .int .i64 0] 70)) w.heap.size (joinTo a b 0) := hA0
  generalize w.alloc (.cells #[.int .i64 0, .int .i64 0, .int .i64 0, .int .i64 0, .int .i64 0, .int .i64 0, .int .i64 0, .int .i64 0] 70) = w0 at *
  clear hA0
  go_loopw [8, 9] (fun _ i wr => ∃ k : Nat, k ≤ 8 ∧ i = .int .i64 k ∧ Arr wr w.heap.size (joinTo a b k) ∧ Gr w wr) (fun _ i _ => 8 - (intOf i).toNat)
  case atStart => exact ⟨0, Nat.zero_le _, rfl, hA0', hG0⟩
  case round =>
    obtain ⟨k, hk, rfl, ha, hg⟩ := hrel
    clear hA0' hG0
    have Ha := Lib.hid ha; have Hg := Lib.hid hg
    clear ha hg
    by_cases hlt : k < 8
    · have g1 : (k : Int) < 8 := by omega
      have g2 : (0 : Int) ≤ k := by omega
      go_wp2_with fail
      refine (H1.out _ _ Hg.out).mono ?_
      rintro e w1 ⟨rfl, hb1⟩
      have Hb1 := Lib.hid hb1
      clear hb1
      go_wp2_with fail
      refine (H2.out _ _ (Hg.out.tr Hb1.out)).mono ?_
      rintro e w2 ⟨rfl, hb2⟩
      have Hb2 := Lib.hid (Hb1.out.tr hb2)
      have ha2 := Ha.out.gr Hb2.out
      have c0 := (ha2 k hlt).1
      have f0 := (ha2 k hlt).2
      have Hjk := Lib.hid (show mx (atV a k) (atV b k) = joinTo a b (k + 1) k by rw [(joinTo_succ a b k).1, atV_in a hlt, atV_in b hlt]; rfl)
      have Ha2 := Lib.hid ha2
      clear hb2 ha2
      go_wp2_with fail
      refine (join1_calls _ _ _).mono ?_
      rintro e w3 ⟨rfl, rfl⟩
      go_wp2_with fail
      go_roundw
      case rel => exact ⟨k + 1, by omega, by go_num, Ha2.out.set _ Hjk.out.symm (joinTo_succ a b k).2, Gr.sc (Hg.out.tr Hb2.out) (by exact Nat.le_refl _) _⟩
      case measure => simp [intOf]; omega
    · obtain rfl : k = 8 := by omega
      have hrd := rd_of_fn (a := some ⟨w.heap.size, 0, none⟩) (c := 8) (joinL a b) (by simp [joinL]) (Nat.le_refl _) (fun _ => rfl) (f := joinTo a b 8) (n := 8) (w := wr) (g := w.heap.size) Ha.out (fun j hj => by
        have hj8 : j < 8 := by simpa [joinL] using hj
        unfold joinTo; rw [if_pos hj8]; simp [joinL])
      have hp := plain_fr _ (joinL a b) wr hrd (by simp [joinL])
      rw [joinL_plain] at hp
      have Hp := Lib.hid hp
      clear hp hrd
      go_wp2_with fail
      refine Hp.out.mono ?_
      rintro e w3 ⟨v3, rfl, ho, hb⟩
      have Ho := Lib.hid ho; have Hb := Lib.hid (Hg.out.tr hb)
      clear ho hb
      go_wp2_with fail
      go_ret
      exact ⟨_, rfl, Ho.out.mono (fun k hk => Nat.lt_of_lt_of_le hk Hg.out.size), Hb.out⟩
theorem join_calls (v1 v2 : Value) (a b : List Int) (w : World) (h1 : rdRow w 1 v1 a.length (encI a)) (h2 : rdRow w 1 v2 b.length (encI b)) (hk1 : a.length ≤ 1000000) (hk2 : b.length ≤ 1000000) :
    Calls Try.prog 33 #[v1, v2] w fun e w' => ∃ v', e = .returned v' ∧ rdX (Fresh w) w' v' (joinV a b) ∧ Gr w w' := by
  have H := Lib.hid (each_calls v1 v2 a b w h1 h2 hk1 hk2)
  clear h1 h2
  go_enter Try.func33, Try.ntmps33
  go_wp2_with fail
  refine H.out.mono ?_
  rintro e w1 ⟨v1, rfl, ho, hb⟩
  have Ho := Lib.hid ho; have Hb := Lib.hid hb
  clear ho hb
  go_wp2_with fail
  go_ret
  exact ⟨_, rfl, Ho.out, Hb.out⟩
theorem covers_calls (v1 v2 : Value) (a b : List Int) (w : World) (h1 : rdRow w 1 v1 a.length (encI a)) (h2 : rdRow w 1 v2 b.length (encI b)) (hk1 : a.length ≤ 1000000) (hk2 : b.length ≤ 1000000) :
    Calls Try.prog 55 #[v1, v2] w fun e w' => e = .returned (.bool (decide (Cov a b))) ∧ Gr w w' := by
  have H := Lib.hid (join_calls v1 v2 a b w h1 h2 hk1 hk2)
  have Hp := Lib.hid (fun W hg => plain_rd v1 a W (h1.gr hg) hk1)
  have hr : decide (Cov a b) = decide (joinV a b = plainV a) := decide_eq_decide.2 cov_join.symm
  rw [hr]
  clear h1 h2 hr
  go_enter Try.func55, Try.ntmps55
  go_wp2_with fail
  refine H.out.mono ?_
  rintro e w1 ⟨u1, rfl, ho1, hb1⟩
  have Ho1 := Lib.hid ho1; have Hb1 := Lib.hid hb1
  clear ho1 hb1
  go_wp2_with fail
  refine (Hp.out _ Hb1.out).mono ?_
  rintro e w2 ⟨u2, rfl, ho2, hb2⟩
  have Heq := Lib.hid (equal_calls u1 u2 (joinV a b) (plainV a) w2 (Ho1.out.1.gr hb2) ho2 (by have : (joinV a b).length ≤ 8 := vecOf_le _; omega))
  have Hb2 := Lib.hid (Hb1.out.tr hb2)
  clear ho2 hb2
  go_wp2_with fail
  refine Heq.out.mono ?_
  rintro e w3 ⟨rfl, hb3⟩
  have Hb3 := Lib.hid (Hb2.out.tr hb3)
  clear hb3
  go_wp2_with fail
  go_ret
  exact ⟨rfl, Hb3.out⟩
end Go.Proofs.Ytnneebdcaefgoaa

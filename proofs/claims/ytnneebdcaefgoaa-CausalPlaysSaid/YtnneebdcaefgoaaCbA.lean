/- The buffer: Sure. -/
import Derived.Test.YtnneebdcaefgoaaCaZ
namespace Go.Proofs.Ytnneebdcaefgoaa
open Go.RowKit Go.Maps

/-- m is up to where all of a site's are out or held. -/
def RunEnd (B : Buf) (s m : Int) : Prop := atV B.out s ≤ m ∧ m ≤ topN ∧ (∀ q, atV B.out s < q → q ≤ m → (B.f s q).isSome = true) ∧ B.f s (m + 1) = none
def SurePost (w : World) (B : Buf) (e : Ending) (w' : World) : Prop :=
  ∃ (M : Nat → Int) (v : Value), (∀ i : Nat, i < 8 → RunEnd B i (M i)) ∧ e = .returned v ∧ rdRow w' 1 v (vecOf M).length (encI (vecOf M)) ∧ Gr w w'
/-- What a round of Sure knows of the vector. -/
def SureV (B : Buf) (k : Nat) (l : List Int) : Prop := l.length ≤ 1000000 ∧ (k ≠ 0 → plainV l = l) ∧ ∀ i : Nat, i < 8 → (i < k → RunEnd B i (at8 l i)) ∧ (k ≤ i → at8 l i = at8 B.out i)
theorem plain_with (l : List Int) (s n : Int) : plainV (withV l s n) = withV l s n := vecOf_congr fun _ h => at8_with l s n h
theorem withV_le (l : List Int) (s n : Int) : (withV l s n).length ≤ 8 := vecOf_le _
theorem sure_step {B : Buf} {k : Nat} {l : List Int} {m : Int} (h : SureV B k l) (hk : k < 8) (hm : RunEnd B k m) : SureV B (k + 1) (withV l k m) := by
  obtain ⟨_, _, h3⟩ := h
  have := withV_le l k m
  refine ⟨by omega, fun _ => plain_with _ _ _, fun i hi => ?_⟩
  rw [at8_with l k m hi]
  unfold withF
  by_cases e : i = k
  · subst e
    rw [if_pos rfl, clN_id (by have := atV_nn B.out i; have := hm.1; have := hm.2.1; omega)]
    exact ⟨fun _ => hm, fun h => absurd h (by omega)⟩
  · rw [if_neg (by omega)]
    exact ⟨fun h => (h3 i hi).1 (by omega), fun h => (h3 i hi).2 (by omega)⟩
set_option maxRecDepth 100000 in
set_option maxHeartbeats 4000000 in
theorem sure_calls (w : World) (p : Nat) (mb : Option Nat) (B : Buf) (h : BufAt w p mb B) (ho : B.out.length ≤ 1000000) (hq : ∀ s q, (B.f s q).isSome = true → q ≤ topN) :
    Calls Try.prog 18 #[.pointer (some ⟨p, 0, none⟩)] w (SurePost w B) := by
  have Hout := Lib.hid (fun W (hg : Gr w W) => out_calls W p mb B (h.gr' hg) ho)
  obtain ⟨ov, c0, c1, c2, hov⟩ := bcells h
  have Hat := Lib.hid (fun W hg s => at_calls ov B.out s W (hov.1.gr hg) ho)
  have C1 := Lib.hid (fun W (hg : Gr w W) => keepc hg c1); have C2 := Lib.hid (fun W (hg : Gr w W) => keepc hg c2)
  have Hb := Lib.hid h; have HQ := Lib.hid hq
  clear c0 c1 c2 hov h hq
  go_enter Try.func18, Try.ntmps18
  go_wp2_with (go_at_call 13; refine (Hout.out _ Gr.rfl').mono ?_; rintro e w1 ⟨v1, rfl, how, hb⟩; obtain ⟨a1, n1, rfl⟩ := own_slice how; have How := Lib.hid (rdRow_of_own how); have Hb1 := Lib.hid hb; clear how hb)
  go_loopw [3, 12] (fun v i wr => ∃ (k : Nat) (l : List Int), k ≤ 8 ∧ i = .int .i64 k ∧ rdRow wr 1 v l.length (encI l) ∧ Hid (SureV B k l) ∧ Gr w wr) (fun _ i _ => 8 - (intOf i).toNat)
  case atStart => exact ⟨0, B.out, by omega, rfl, How.out, Lib.hid ⟨ho, fun h => absurd rfl h, fun i hi => ⟨fun h => absurd h (by omega), fun _ => rfl⟩⟩, Hb1.out⟩
  case round =>
    obtain ⟨k, l, hk8, rfl, hrd, hS, hg⟩ := hrel
    obtain ⟨a3, n3, rfl, _⟩ := rd_at hrd
    have Hrd := Lib.hid hrd
    clear hrd
    by_cases hlt : k < 8
    · have hlt' : (k : Int) < 8 := by omega
      have hann := atV_nn B.out (k : Int)
      have HA := Lib.hid hann
      have c1 := C1.out wr hg
      clear hann
      go_wp2_with (go_at_call 35; refine (Hat.out _ hg _).mono ?_; rintro e w2 ⟨rfl, hb⟩; have hg2 := hg.tr hb; have Hrd2 := Lib.hid (Hrd.out.gr hb); clear hb)
      obtain ⟨wo, rfl⟩ : ∃ wo : World, wo = w2 := ⟨_, rfl⟩
      go_loop [5, 6] (fun nv bv => ∃ (n : Int) (is : Bool), nv = .int .i64 n ∧ bv = .bool is ∧ atV B.out k ≤ n ∧ n ≤ topN + 1 ∧ (is = true → n ≤ topN) ∧ Hid ((is = true → ∀ q, atV B.out k < q → q ≤ n → (B.f k q).isSome = true) ∧ (is = false → RunEnd B k (n - 1)))) (fun nv bv => (topN + 3 - intOf nv).toNat)
      case atStart => exact ⟨_, true, rfl, rfl, Int.le_refl _, by have := HA.out; omega, fun _ => HA.out.2, Lib.hid ⟨fun _ q h1 h2 => absurd h1 (by omega), fun h => by cases h⟩⟩
      case round =>
        obtain ⟨n, is, rfl, rfl, hn1, hn2, hn3, hR⟩ := hrel
        cases is
        · have hwr : IntKind.i64.wrap (n - 1) = n - 1 := by have := HA.out; unfold topN at hn2 this; simp [IntKind.wrap, IntKind.bits, IntKind.signed]; omega
          have HE := Lib.hid (hR.out.2 rfl)
          clear hR hn3
          go_wp2_with (go_at_call 39; refine (with_calls _ l k (n - 1) _ Hrd2.out hS.out.1).mono ?_; rintro e w3 ⟨v3, rfl, hr3, hb⟩; have hr4 := hr3.1; have hg3 := hg2.tr hb; clear hr3 hb)
          go_roundw
          case rel => exact ⟨k + 1, withV l k (n - 1), by omega, by go_num, hr4, Lib.hid (sure_step hS.out hlt HE.out), hg3⟩
          case measure => simp [intOf]; omega
        · have hn4 := hn3 rfl
          obtain ⟨r2, d2, is2, hL, hl⟩ := look_rec Hb.out (s := (k : Int)) (q := n + 1) (by unfold I64; omega) (by unfold I64; unfold topN at *; have := HA.out; omega)
          have HL := Lib.hid hL; have Hl := Lib.hid (hl _ hg2)
          clear hL hl hn3
          have c2 := C2.out wo hg2
          have hwr : IntKind.i64.wrap (n + 1) = n + 1 := by unfold topN at hn4; have := HA.out; unfold topN at this; simp [IntKind.wrap, IntKind.bits, IntKind.signed]; omega
          go_wp2_with (at_lookup; refine wpList_look_map _ rfl _ _ _ rfl mb rfl _ rfl _ _ Hl.out ?_)
          go_round
          case rel =>
            have h1 := HL.out.2.1
            refine ⟨n + 1, is2, rfl, rfl, by omega, by omega, fun e => HQ.out k (n + 1) (by rw [← h1]; exact e), Lib.hid ⟨fun e q q1 q2 => ?_, fun e => ⟨by omega, by omega, fun q q1 q2 => hR.out.1 rfl q q1 (by omega), ?_⟩⟩⟩
            · by_cases e2 : q = n + 1
              · subst e2; rw [← h1]; exact e
              · exact hR.out.1 rfl q q1 (by omega)
            · rw [show n + 1 - 1 + 1 = n + 1 by omega]
              cases hq9 : B.f k (n + 1) with
              | none => rfl
              | some x => rw [hq9, e] at h1; cases h1
          case measure => simp [intOf]; omega
    · obtain rfl : k = 8 := by omega
      have hlt' : ¬ (8 : Int) < 8 := by omega
      go_wp2_with fail
      go_ret
      obtain ⟨s1, s2, s3⟩ := hS.out
      have hl : vecOf (at8 l) = l := s2 (by omega)
      refine ⟨at8 l, _, fun i hi => (s3 i hi).1 hi, rfl, ?_, hg⟩
      rw [hl]
      exact Hrd.out
end Go.Proofs.Ytnneebdcaefgoaa

/- The stable sort, walked: ranges exchanged, rotated. -/
import Derived.Test.YtpnpnjfflblkpaaStB
import Derived.Shelf.SlSortCmp.KitK
import Derived.Sort.WalkB2
import Derived.Sort.WalkB12
import Derived.Deep.LoopGhost
namespace Go.Proofs.Ytpnpnjfflblkpaa
open Go.Shelf Go.RowKit Go.Lib Go.Sort

set_option maxHeartbeats 4000000 in
set_option maxRecDepth 1000000 in
theorem swr_calls (k6 : Nat) (zE : ∀ w, (Go.sizeOf 26).run Try.prog w = .ok k6 w) (enc : Pt → List Value) (blk off cap : Nat) (d0 d : Array Pt) (w0 w : World) (R0 : RowK enc k6 w0 blk off d0) (hs : d.size = d0.size) (hsz : d0.size ≤ 1000000) (S : SWK enc k6 w0 blk off d w) (cv : Value)
    (L A M B R : List Pt) (hd : d.toList = L ++ A ++ M ++ B ++ R) (n a b : Nat) (hA : A.length = n) (hB : B.length = n) (ha : a = L.length) (hb : b = L.length + n + M.length) :
    Calls Try.prog 92 #[.slice (some ⟨blk, off, none⟩) d0.size cap, .int .i64 a, .int .i64 b, .int .i64 n, cv] w fun e w' => e = .returned (.tuple #[]) ∧ ∃ d', d'.toList = L ++ B ++ M ++ A ++ R ∧ SWK enc k6 w0 blk off d' w' := by
  have S0 : Aside (SWK enc k6 w0 blk off d w) := S
  have HD := Lib.hid hd
  have HA := Lib.hid hA; have HB := Lib.hid hB; have Ha := Lib.hid ha; have Hb := Lib.hid hb
  have hlen : L.length + n + M.length + n + R.length = d0.size := by
    have := congrArg List.length hd
    simp at this; omega
  have Hlen := Lib.hid hlen
  have hbn : b + n ≤ d0.size := by omega
  have han : a + n ≤ d0.size := by omega
  have Hab := Lib.hid (show a + n ≤ b by omega)
  clear S hd hA hB ha hb hs hlen
  have mixed : Try.prog.follows .mixedOrders = true := by kernel_rfl
  have t0 := Try.underlying0; have a0 := Try.isAgg0; have z0 := Try.sizeOf0; have v0 := Try.zeroValue0
  have t3 := Try.underlying3; have a3 := Try.isAgg3; have z3 := Try.sizeOf3; have v3 := Try.zeroValue3
  have t4 := Try.underlying4; have a4 := Try.isAgg4; have z4 := Try.sizeOf4; have v4 := Try.zeroValue4
  have t22 := Try.underlying37; have a22 := Try.isAgg37; have z22 := Try.sizeOf37; have v22 := Try.zeroValue37
  have aE := Try.isAgg26
  have F := Try.func92
  generalize Try.prog = P at *
  go_enter F, Try.ntmps92
  go_wp2_with fail
  go_loopg [10] n (fun kx s10 wr => ∃ (k : Nat) (dk : Array Pt), s10 = .int .i64 k ∧ k ≤ n ∧ n - k ≤ kx ∧ Hid (dk.toList = L ++ (B.take k ++ A.drop k) ++ M ++ (A.take k ++ B.drop k) ++ R) ∧ Aside (SWK enc k6 w0 blk off dk wr))
  case atStart => exact ⟨0, d, rfl, Nat.zero_le _, Nat.le_refl _, Lib.hid (by rw [HD.out]; simp), S0⟩
  case round =>
    clear S0
    obtain ⟨k, dk, rfl, hk, hkx, HK, S1⟩ := hrel
    have HS := Lib.hid (show dk.size = d0.size by
      have h := congrArg List.length HK.out
      have h1 := Hlen.out; have h2 := HA.out; have h3 := HB.out
      simp at h; omega)
    by_cases hlt : k < n
    · have hltz : (k : Int) < (n : Int) := by omega
      have Hst := Lib.hid (swr_step HA.out HB.out hlt HK.out (i := a + k) (j := b + k) (by have := Ha.out; omega) (by have := Hb.out; omega))
      have S2 : Aside (SWK enc k6 w0 blk off (swp dk (a + k) (b + k)) ((wr.drew.setCells blk (off + (a + k) * k6) (enc dk[b + k]!)).setCells blk (off + (b + k) * k6) (enc dk[a + k]!))) := S1.out.swapped R0 (a + k) (b + k) (by have := HS.out; omega) (by have := HS.out; omega)
      have la := S1.out.ld1 R0 HS.out P (a + k) (by have := HS.out; omega)
      have lb := S1.out.ld1 R0 HS.out P (b + k) (by have := HS.out; omega)
      have sa := S1.out.st1 R0 HS.out P (a + k) (by have := HS.out; omega) dk[b + k]!
      have sb1 := S1.out.st2 R0 HS.out P (a + k) (b + k) (by have := HS.out; omega) (by have := HS.out; omega) dk[b + k]! dk[a + k]!
      have na : (enc dk[a + k]!).length = k6 := R0.hk _
      have nb : (enc dk[b + k]!).length = k6 := R0.hk _
      generalize enc dk[a + k]! = cI at S2 la sb1 na
      generalize enc dk[b + k]! = cJ at S2 lb sa sb1 nb
      clear S1
      have pa : (0 : Int) ≤ (a : Int) + k := by omega
      have pb : (0 : Int) ≤ (b : Int) + k := by omega
      have ba : (a : Int) + k < (d0.size : Int) := by omega
      have bb : (b : Int) + k < (d0.size : Int) := by omega
      have ea : ((a : Int) + k).toNat = a + k := by omega
      have eb : ((b : Int) + k).toNat = b + k := by omega
      have ra : IntKind.i64.wrap ((a : Int) + k) = (a : Int) + k := wrap_id (by unfold I64; omega)
      have rb : IntKind.i64.wrap ((b : Int) + k) = (b : Int) + k := wrap_id (by unfold I64; omega)
      go_wp2_with fail
      go_big_region_o
      clear la lb sa sb1
      generalize (wr.drew.setCells blk (off + (a + k) * k6) cJ).setCells blk (off + (b + k) * k6) cI = w2 at S2 ⊢
      go_wp2
      go_roundg (n - (k + 1))
      case measure => omega
      case rel => exact ⟨k + 1, swp dk (a + k) (b + k), by go_num, by omega, Nat.le_refl _, Hst, S2⟩
    · obtain rfl : k = n := by omega
      have HF := Lib.hid (show dk.toList = L ++ B ++ M ++ A ++ R by
        rw [HK.out, List.take_of_length_le (Nat.le_of_eq HB.out), List.drop_eq_nil_of_le (Nat.le_of_eq HA.out), List.take_of_length_le (Nat.le_of_eq HA.out), List.drop_eq_nil_of_le (Nat.le_of_eq HB.out)]; simp)
      go_wp2
      go_end0
      exact ⟨rfl, dk, HF.out, S1.out⟩
set_option maxHeartbeats 4000000 in
set_option maxRecDepth 1000000 in
theorem rot_calls (k6 : Nat) (zE : ∀ w, (Go.sizeOf 26).run Try.prog w = .ok k6 w) (enc : Pt → List Value) (blk off cap : Nat) (d0 d : Array Pt) (w0 w : World) (R0 : RowK enc k6 w0 blk off d0) (hs : d.size = d0.size) (hsz : d0.size ≤ 1000000) (S : SWK enc k6 w0 blk off d w) (cv : Value)
    (L U V R : List Pt) (hd : d.toList = L ++ U ++ V ++ R) (a m b : Nat) (hU : 0 < U.length) (hV : 0 < V.length) (ha : a = L.length) (hm : m = L.length + U.length) (hb : b = L.length + U.length + V.length) :
    Calls Try.prog 91 #[.slice (some ⟨blk, off, none⟩) d0.size cap, .int .i64 a, .int .i64 m, .int .i64 b, cv] w fun e w' => e = .returned (.tuple #[]) ∧ ∃ d', d'.toList = L ++ V ++ U ++ R ∧ SWK enc k6 w0 blk off d' w' := by
  have S0 := Lib.hid S
  have hlen : L.length + U.length + V.length + R.length = d0.size := by
    have := congrArg List.length hd
    simp at this; omega
  have HT : ∃ T, L ++ V ++ U ++ R = T := ⟨_, rfl⟩
  obtain ⟨T, eT⟩ := HT
  have HTl := Lib.hid (show T.length = d0.size by rw [← eT]; simp; omega)
  rw [eT]
  have H0 := Lib.hid (show ∃ L' U' V' R', d.toList = L' ++ U' ++ V' ++ R' ∧ L' ++ V' ++ U' ++ R' = T ∧ U'.length = m - a ∧ V'.length = b - m ∧ L'.length + U'.length = m from ⟨L, U, V, R, hd, eT, by omega, by omega, by omega⟩)
  have h1 : a < m := by omega
  have h2 : m < b := by omega
  have h3 : b ≤ d0.size := by omega
  have Hs := Lib.hid hs
  clear S hd hU hV ha hm hb hlen eT hs
  go_enter Try.func91, Try.ntmps91
  go_wp2_with fail
  go_loopw [10, 11] (fun iv jv wr => ∃ (i j : Nat) (dk : Array Pt), iv = .int .i64 i ∧ jv = .int .i64 j ∧ 0 < i ∧ 0 < j ∧ i ≤ m ∧ m + j ≤ d0.size ∧ Hid (∃ L' U' V' R', dk.toList = L' ++ U' ++ V' ++ R' ∧ L' ++ V' ++ U' ++ R' = T ∧ U'.length = i ∧ V'.length = j ∧ L'.length + U'.length = m) ∧ Hid (SWK enc k6 w0 blk off dk wr)) (fun iv jv _ => (intOf iv).toNat + (intOf jv).toNat)
  case atStart => exact ⟨m - a, b - m, d, by congr 1; omega, by congr 1; omega, by omega, by omega, by omega, by omega, H0, S0⟩
  case round =>
    clear S0 H0 Hs
    obtain ⟨i, j, dk, rfl, rfl, hi0, hj0, him, hjm, HL, S1⟩ := hrel
    obtain ⟨L', U', V', R', e1, e2, e3, e4, e5⟩ := HL.out
    have HS := Lib.hid (show dk.size = d0.size by
      have h := congrArg List.length e1
      have h1 := congrArg List.length e2
      have h2 := HTl.out
      simp at h h1; omega)
    have E1 := Lib.hid e1; have E2 := Lib.hid e2; have E3 := Lib.hid e3; have E4 := Lib.hid e4; have E5 := Lib.hid e5
    clear e1 e2 e3 e4 e5 HL
    rcases Nat.lt_trichotomy i j with hlt | rfl | hlt
    · have hne : ((i : Int) == j) = false := by simp; omega
      have hgt : ¬ (j : Int) < i := by omega
      obtain ⟨V1, V2, rfl, v1, v2⟩ : ∃ V1 V2, V' = V1 ++ V2 ∧ V1.length = j - i ∧ V2.length = i := ⟨V'.take (j - i), V'.drop (j - i), (List.take_append_drop _ _).symm, by rw [List.length_take, E4.out]; omega, by rw [List.length_drop, E4.out]; omega⟩
      have HC := Lib.hid (swr_calls k6 zE enc blk off cap d0 dk w0 wr R0 HS.out hsz S1.out cv L' U' V1 V2 R' (by rw [E1.out]; simp) i (m - i) (m + j - i) E3.out v2 (by have := E3.out; have := E5.out; omega) (by have := E3.out; have := E5.out; omega))
      have em : ((m - i : Nat) : Int) = (m : Int) - i := by omega
      have em2 : ((m + j - i : Nat) : Int) = (m : Int) + j - i := by omega
      rw [em, em2] at HC
      clear em em2
      go_wp2_with (go_at_call 92; refine HC.out.mono ?_; rintro e w2 ⟨rfl, d2, h2, S2⟩; have H2 := Lib.hid h2; have S2 := Lib.hid S2; clear h2)
      go_roundw
      case rel => exact ⟨i, j - i, d2, rfl, by congr 1; omega, hi0, by omega, him, by omega, Lib.hid ⟨L', V2, V1, U' ++ R', by rw [H2.out]; simp, by rw [← E2.out]; simp, v2, v1, by have := E3.out; have := E5.out; omega⟩, S2⟩
      case measure => simp [intOf]; omega
    · have HC := Lib.hid (swr_calls k6 zE enc blk off cap d0 dk w0 wr R0 HS.out hsz S1.out cv L' U' [] V' R' (by rw [E1.out]; simp) i (m - i) m E3.out E4.out (by have := E3.out; have := E5.out; omega) (by have := E3.out; have := E5.out; show m = L'.length + i + 0; omega))
      have em : ((m - i : Nat) : Int) = (m : Int) - i := by omega
      rw [em] at HC
      clear em
      go_wp2_with (go_at_call 92; refine HC.out.mono ?_; rintro e w2 ⟨rfl, d2, h2, S2⟩; have H2 := Lib.hid h2; have S2 := Lib.hid S2; clear h2)
      go_end0
      exact ⟨rfl, d2, by rw [H2.out, ← E2.out]; simp, S2.out⟩
    · have hne : ((i : Int) == j) = false := by simp; omega
      have hgt : (j : Int) < i := by omega
      obtain ⟨U1, U2, rfl, u1, u2⟩ : ∃ U1 U2, U' = U1 ++ U2 ∧ U1.length = j ∧ U2.length = i - j := ⟨U'.take j, U'.drop j, (List.take_append_drop _ _).symm, by rw [List.length_take, E3.out]; omega, by rw [List.length_drop, E3.out]⟩
      have HC := Lib.hid (swr_calls k6 zE enc blk off cap d0 dk w0 wr R0 HS.out hsz S1.out cv L' U1 U2 V' R' (by rw [E1.out]; simp) j (m - i) m u1 E4.out (by have := E3.out; have := E5.out; omega) (by have := E3.out; have := E5.out; omega))
      have em : ((m - i : Nat) : Int) = (m : Int) - i := by omega
      rw [em] at HC
      clear em
      go_wp2_with (go_at_call 92; refine HC.out.mono ?_; rintro e w2 ⟨rfl, d2, h2, S2⟩; have H2 := Lib.hid h2; have S2 := Lib.hid S2; clear h2)
      go_roundw
      case rel => exact ⟨i - j, j, d2, by congr 1; omega, rfl, by omega, hj0, by omega, hjm, Lib.hid ⟨L' ++ V', U2, U1, R', H2.out, by rw [← E2.out]; simp, u2, u1, by have := E3.out; have := E4.out; have := E5.out; simp; omega⟩, S2⟩
      case measure => simp [intOf]; omega
end Go.Proofs.Ytpnpnjfflblkpaa

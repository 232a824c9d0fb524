/- The stable sort, walked: a merge where the second run has one element. -/
import Derived.Test.YtpnpnjfflblkpaaStD
namespace Go.Proofs.Ytpnpnjfflblkpaa
open Go.Shelf Go.RowKit Go.Lib Go.Sort

set_option maxHeartbeats 4000000 in
set_option maxRecDepth 1000000 in
theorem symm_two (k6 : Nat) (zE : ∀ w, (Go.sizeOf 26).run Try.prog w = .ok k6 w) (enc : Pt → List Value) (blk off cap : Nat) (d0 d : Array Pt) (w0 w : World) (R0 : RowK enc k6 w0 blk off d0) (hs : d.size = d0.size) (hsz : d0.size ≤ 1000000) (S : SWK enc k6 w0 blk off d w)
    (hcmp : CmpLays Try.prog 61 #[] enc k6 cmpB blk off d0.size w0)
    (L : List Pt) (y : Pt) (U R : List Pt) (hd : d.toList = L ++ U ++ [y] ++ R) (hU : SrtB U) (hU0 : 1 < U.length) (a m b : Nat) (ha : a = L.length) (hm : m = L.length + U.length) (hb : b = L.length + U.length + 1) :
    Calls Try.prog 89 #[.slice (some ⟨blk, off, none⟩) d0.size cap, .int .i64 a, .int .i64 m, .int .i64 b, .func (.func 61) #[] #[]] w fun e w' => e = .returned (.tuple #[]) ∧ ∃ T d', d'.toList = L ++ T ++ R ∧ SrtB T ∧ Stab (U ++ [y]) T ∧ SWK enc k6 w0 blk off d' w' := by
  have S0 : Aside (SWK enc k6 w0 blk off d w) := S
  have HC : Aside _ := hcmp
  have HS := Lib.hid hs
  have hlen : L.length + U.length + 1 + R.length = d0.size := by
    have := congrArg List.length hd
    simp at this; omega
  have hdU : d.toList = L ++ U ++ ([y] ++ R) := by rw [hd]; simp
  have HR := Lib.hid (arr_run (L := L) hdU hU (m := a) (b := m) ha hm)
  have HX := Lib.hid (show d[m]! = y from arr_mid (L := L ++ U) (R := R) (by rw [hd]; simp) (by simp; omega))
  have HD := Lib.hid hd; have HUs := Lib.hid hU; have HUm := Lib.hid (fun t => arr_mem (L := L) (V := U) (R := [y] ++ R) hdU (m := a) ha t)
  have hbs : b ≤ d0.size := by omega
  have hmb : m < b := by omega
  have HBM := Lib.hid (show b = m + 1 by omega)
  have ham : a + 1 < m := by omega
  have HL := Lib.hid (And.intro ha hm)
  clear S hcmp hs hd hU hlen ha hm hb hU0 hdU
  have mixed : Try.prog.follows .mixedOrders = true := by kernel_rfl
  have t0 := Try.underlying0; have a0 := Try.isAgg0; have z0 := Try.sizeOf0; have v0 := Try.zeroValue0
  have t3 := Try.underlying3; have a3 := Try.isAgg3; have z3 := Try.sizeOf3; have v3 := Try.zeroValue3
  have t4 := Try.underlying4; have a4 := Try.isAgg4; have z4 := Try.sizeOf4; have v4 := Try.zeroValue4
  have t22 := Try.underlying37; have a22 := Try.isAgg37; have z22 := Try.sizeOf37; have v22 := Try.zeroValue37
  have aE := Try.isAgg26
  have t86 := Try.underlying86; have a86 := Try.isAgg86; have z86 := Try.sizeOf86; have v86 := Try.zeroValue86
  have F := Try.func89
  have eg : ∀ args w, (callFunc 61 args).run Try.prog w = .ok (.enter 61 args) w := enters_of Try.func61 (by kernel_rfl) rfl
  generalize Try.prog = P at *
  go_enter F, Try.ntmps89
  have h11 : ((m : Int) - (a : Int) == 1) = false := by simp; omega
  have h12 : ((b : Int) - (m : Int) == 1) = true := by have := HBM.out; simp; omega
  go_wp2_with fail
  go_loopw [14, 15, 16] (fun iv jv _ wr => ∃ (i j : Nat), iv = .int .i64 i ∧ jv = .int .i64 j ∧ a ≤ i ∧ i ≤ j ∧ j ≤ m ∧ Hid (∀ c, a ≤ c → c < i → ¬ bef y d[c]!) ∧ Hid (∀ c, j ≤ c → c < m → bef y d[c]!) ∧ Aside (SWK enc k6 w0 blk off d wr)) (fun iv jv _ _ => (intOf jv).toNat - (intOf iv).toNat)
  case atStart => exact ⟨a, m, rfl, rfl, Nat.le_refl _, by omega, Nat.le_refl _, Lib.hid (fun c h1 h2 => by omega), Lib.hid (fun c h1 h2 => by omega), S0⟩
  case round =>
    clear S0
    obtain ⟨i, j, rfl, rfl, hi, hij, hjb, HB, HA, SU⟩ := hrel
    by_cases hlt : i < j
    · have hltz : (i : Int) < (j : Int) := by omega
      go_upto_region 17 with (fail)
      obtain ⟨h, eh, hh1, hh2⟩ : ∃ h : Nat, ((i : Int) + j) / 2 = h ∧ i ≤ h ∧ h < j := ⟨(i + j) / 2, by omega, by omega, by omega⟩
      rw [eh]
      clear eh
      have e5a : ((m : Nat) : Int).toNat = m := by omega
      have p5a : (0 : Int) ≤ ((m : Nat) : Int) := by omega
      have b5a : ((m : Nat) : Int) < (d0.size : Int) := by omega
      have r5a : IntKind.i64.wrap ((m : Nat) : Int) = ((m : Nat) : Int) := wrap_id (by unfold I64; omega)
      have e5b : ((h : Nat) : Int).toNat = h := by omega
      have p5b : (0 : Int) ≤ ((h : Nat) : Int) := by omega
      have b5b : ((h : Nat) : Int) < (d0.size : Int) := by omega
      have r5b : IntKind.i64.wrap ((h : Nat) : Int) = ((h : Nat) : Int) := wrap_id (by unfold I64; omega)
      obtain ⟨x5, hx5⟩ : ∃ x, x = d[m]! := ⟨_, rfl⟩
      obtain ⟨y5, hy5⟩ : ∃ x, x = d[h]! := ⟨_, rfl⟩
      have l5a := SU.out.ld R0 HS.out P (m) (by have := HS.out; omega)
      have l5b := SU.out.ld R0 HS.out P (h) (by have := HS.out; omega)
      rw [← hx5] at l5a
      rw [← hy5] at l5b
      have hc5 := SU.out.cmp HC.out HS.out x5 y5
      by_cases hb : bef x5 y5
      · have HB2 := Lib.hid (show ∀ c, h ≤ c → c < m → bef y d[c]! from fun c h1 h2 => by
          rw [hx5, hy5, HX.out] at hb
          exact bef_leB hb (HR.out h c (by omega) h1 h2))
        have hv5 : cmpB x5 y5 < 0 := by unfold cmpB; rw [if_pos hb]; decide
        have hd5 : decide (cmpB x5 y5 < 0) = true := decide_eq_true hv5
        clear hx5 hy5 hb
        go_wp2_with fail
        go_quiet_grown (first | (go_at_fn 61; refine Calls.grown_of (hc5 _ _)))
        have SU2 : Aside (SWK enc k6 w0 blk off d (grow (wr.drewN nq) osq)) := SU.out.grown nq osq
        clear l5a l5b hc5 SU
        generalize grow (wr.drewN nq) osq = wu2 at SU2 ⊢
        clear nq osq
        go_wp2
        go_roundw
        case rel => exact ⟨i, h, rfl, rfl, hi, hh1, by omega, HB, HB2, SU2⟩
        case measure => simp [intOf]; omega
      · have HA2 := Lib.hid (show ∀ c, a ≤ c → c < h + 1 → ¬ bef y d[c]! from fun c h1 h2 z => by
          rw [hx5, hy5, HX.out] at hb
          exact hb (bef_leB z (HR.out c h h1 (by omega) (by omega))))
        have hv5 : ¬ cmpB x5 y5 < 0 := by unfold cmpB; rw [if_neg hb]; split <;> decide
        have hd5 : decide (cmpB x5 y5 < 0) = false := decide_eq_false hv5
        clear hx5 hy5 hb
        go_wp2_with fail
        go_quiet_grown (first | (go_at_fn 61; refine Calls.grown_of (hc5 _ _)))
        have SU2 : Aside (SWK enc k6 w0 blk off d (grow (wr.drewN nq) osq)) := SU.out.grown nq osq
        clear l5a l5b hc5 SU
        generalize grow (wr.drewN nq) osq = wu2 at SU2 ⊢
        clear nq osq
        go_wp2
        go_roundw
        case rel => exact ⟨h + 1, j, by go_num, rfl, by omega, by omega, hjb, HA2, HA, SU2⟩
        case measure => simp [intOf]; omega
    · obtain rfl : i = j := by omega
      clear hlt
      obtain ⟨t, et⟩ : ∃ t, i - a = t := ⟨_, rfl⟩
      obtain ⟨U1, eU1⟩ : ∃ U1, U.take t = U1 := ⟨_, rfl⟩
      obtain ⟨U2, eU2⟩ : ∃ U2, U.drop t = U2 := ⟨_, rfl⟩
      have EU := Lib.hid (show U = U1 ++ U2 by rw [← eU1, ← eU2, List.take_append_drop])
      have HU1 := Lib.hid (show U1.length = t by rw [← eU1, List.length_take]; have := HL.out; omega)
      have HU2 := Lib.hid (show U2.length = m - i by rw [← eU2, List.length_drop]; have := HL.out; omega)
      have HM1 := Lib.hid (show ∀ v ∈ U1, leB v y from fun v hv => by
        rw [← eU1] at hv
        obtain ⟨c, c1, c2, rfl⟩ := (HUm.out t).1 v hv
        exact HB.out c c1 (by omega))
      have HM2 := Lib.hid (show ∀ v ∈ U2, bef y v from fun v hv => by
        rw [← eU2] at hv
        obtain ⟨c, c1, c2, rfl⟩ := (HUm.out t).2 v hv
        exact HA.out c (by omega) (by have := HL.out; omega))
      have HI := Lib.hid (show i = a + t by omega)
      clear et eU1 eU2 HB HA HUm HR
      have S2 := SU
      clear SU
      go_wp2_with fail
      go_loopw [17] (fun kv wr => ∃ (p z : Nat) (dk : Array Pt), kv = .int .i64 (z : Int) ∧ Hid (z = i + p) ∧ z ≤ m ∧ Hid (dk.toList = L ++ U1 ++ U2.take p ++ y :: (U2.drop p ++ R)) ∧ Aside (SWK enc k6 w0 blk off dk wr)) (fun kv _ => (intOf kv).toNat)
      case atStart => exact ⟨m - i, m, d, rfl, Lib.hid (by omega), Nat.le_refl _, Lib.hid (by rw [HD.out, EU.out, List.take_of_length_le (Nat.le_of_eq HU2.out), List.drop_eq_nil_of_le (Nat.le_of_eq HU2.out)]; simp), S2⟩
      case round =>
        clear S2
        obtain ⟨p, z, dk, rfl, HZ, hzm, HK, S1⟩ := hrel
        have HS1 := Lib.hid (show dk.size = d0.size by
          have h := congrArg List.length HK.out
          have h1 := congrArg List.length HD.out
          have h2 := congrArg List.length EU.out
          have h3 := HS.out; have h4 := HU1.out; have h5 := HU2.out
          simp at h h1 h2; omega)
        by_cases hlt : i < z
        · obtain ⟨p, rfl⟩ : ∃ q, p = q + 1 := ⟨p - 1, by have := HZ.out; omega⟩
          obtain ⟨z, rfl⟩ : ∃ q, z = q + 1 := ⟨z - 1, by omega⟩
          have hltz : (i : Int) < (z : Int) + 1 := by omega
          have HK2 := Lib.hid (show (swp dk (z + 1) z).toList = L ++ U1 ++ U2.take p ++ y :: (U2.drop p ++ R) by
            have hpl : p < U2.length := by have := HU2.out; have := HZ.out; omega
            have e1 : U2.drop p = U2[p] :: U2.drop (p + 1) := List.drop_eq_getElem_cons hpl
            have e2 : U2.take (p + 1) = U2.take p ++ [U2[p]] := List.take_succ_eq_append_getElem hpl
            have h' := HK.out
            rw [e2] at h'
            rw [swp_comm _ _ _ (by omega)]
            have := swp_list (d := dk) (L := L ++ U1 ++ U2.take p) (M := []) (R := U2.drop (p + 1) ++ R) (x := U2[p]) (y := y) (by rw [h']; simp only [List.append_assoc, List.cons_append, List.nil_append]) (i := z) (j := z + 1) (by have h1 := HL.out; have h2 := HU1.out; have h3 := HI.out; have h4 := HZ.out; rw [List.length_append, List.length_append, List.length_take]; omega) (by have h1 := HL.out; have h2 := HU1.out; have h3 := HI.out; have h4 := HZ.out; rw [List.length_append, List.length_append, List.length_take]; simp; omega)
            rw [this, e1]
            simp only [List.append_assoc, List.cons_append, List.nil_append])
          have S2 : Aside (SWK enc k6 w0 blk off (swp dk (z + 1) z) ((wr.drew.setCells blk (off + (z + 1) * k6) (enc dk[z]!)).setCells blk (off + z * k6) (enc dk[z + 1]!))) := S1.out.swapped R0 (z + 1) z (by have := HS1.out; omega) (by have := HS1.out; omega)
          have la := S1.out.ld1 R0 HS1.out P (z + 1) (by have := HS1.out; omega)
          have lb := S1.out.ld1 R0 HS1.out P z (by have := HS1.out; omega)
          have sa := S1.out.st1 R0 HS1.out P (z + 1) (by have := HS1.out; omega) dk[z]!
          have sb1 := S1.out.st2 R0 HS1.out P (z + 1) z (by have := HS1.out; omega) (by have := HS1.out; omega) dk[z]! dk[z + 1]!
          have na : (enc dk[z + 1]!).length = k6 := R0.hk _
          have nb : (enc dk[z]!).length = k6 := R0.hk _
          generalize enc dk[z + 1]! = cI at S2 la sb1 na
          generalize enc dk[z]! = cJ at S2 lb sa sb1 nb
          clear S1
          have pa : (0 : Int) ≤ (z : Int) := by omega
          have pb : (0 : Int) ≤ (z : Int) + 1 := by omega
          have ba : (z : Int) < (d0.size : Int) := by omega
          have bb : (z : Int) + 1 < (d0.size : Int) := by omega
          have ea : (z : Int).toNat = z := by omega
          have eb : ((z : Int) + 1).toNat = z + 1 := by omega
          have ra : IntKind.i64.wrap (z : Int) = (z : Int) := wrap_id (by unfold I64; omega)
          have rb : IntKind.i64.wrap ((z : Int) + 1) = (z : Int) + 1 := wrap_id (by unfold I64; omega)
          go_wp2_with fail
          go_big_region_o
          clear la lb sa sb1
          generalize (wr.drew.setCells blk (off + (z + 1) * k6) cJ).setCells blk (off + z * k6) cI = w2 at S2 ⊢
          go_wp2
          go_roundw
          case rel => exact ⟨p, z, swp dk (z + 1) z, by first | rfl | (congr 1; omega) | congr 1, Lib.hid (by have := HZ.out; omega), by omega, HK2, S2⟩
          case measure => simp [intOf]
        · have hzi : z = i := by have := HZ.out; omega
          obtain rfl : p = 0 := by have := HZ.out; omega
          have hltz : ¬ (i : Int) < (z : Int) := by omega
          have HF := Lib.hid (show dk.toList = L ++ ((U1 ++ [y]) ++ U2) ++ R by
            rw [HK.out]; simp)
          have hUs := HUs.out
          rw [EU.out] at hUs
          have HMG := Lib.hid (merge_parts (U1 := U1) (U2 := U2) (V1 := [y]) (V2 := []) (T1 := U1 ++ [y]) (T2 := U2) hUs (List.pairwise_singleton _ _) (fun v hv u hu => by rw [List.mem_singleton.1 hv]; exact HM2.out u hu) (fun u hu v hv => by cases hv) (List.pairwise_append.2 ⟨(List.pairwise_append.1 hUs).1, List.pairwise_singleton _ _, fun u hu v hv => by rw [List.mem_singleton.1 hv]; exact HM1.out u hu⟩) Stab.rfl' (List.pairwise_append.1 hUs).2.1 (by rw [List.append_nil]; exact Stab.rfl'))
          clear hUs hzi
          go_wp2
          refine bodyPost_ret (results_none rfl _ _ _) rfl ⟨rfl, _, dk, by have := HF.out; simpa [List.append_assoc] using this, HMG.out.1, by have := HMG.out.2; rw [← EU.out] at this; exact this, S1.out⟩
end Go.Proofs.Ytpnpnjfflblkpaa

/- The stable sort, walked: a merge where one run has one element. -/
import Derived.Test.YtpnpnjfflblkpaaStC
namespace Go.Proofs.Ytpnpnjfflblkpaa
open Go.Shelf Go.RowKit Go.Lib Go.Sort

theorem arr_run {d : Array Pt} {L V R : List Pt} (hd : d.toList = L ++ V ++ R) (hV : SrtB V) {m b : Nat} (hm : m = L.length) (hb : b = L.length + V.length) : ∀ c c', m ≤ c → c ≤ c' → c' < b → leB d[c]! d[c']! := fun c c' h1 h2 h3 => by
  have e : ∀ i (h : m ≤ i) (h' : i < b), d[i]! = V[i - m]'(by omega) := fun i h h' => by
    rw [arr_get hd (by simp; omega), List.getElem_append_left (by simp; omega), List.getElem_append_right (by omega)]
    simp [hm]
  rw [e c h1 (by omega), e c' (by omega) h3]
  exact srt_mono hV (by omega) (by omega)
theorem arr_mem {d : Array Pt} {L V R : List Pt} (hd : d.toList = L ++ V ++ R) {m : Nat} (hm : m = L.length) (t : Nat) : (∀ v ∈ V.take t, ∃ c, m ≤ c ∧ c < m + t ∧ d[c]! = v) ∧ (∀ v ∈ V.drop t, ∃ c, m + t ≤ c ∧ c < m + V.length ∧ d[c]! = v) := by
  have e : ∀ i (h : i < V.length), d[m + i]! = V[i] := fun i h => by
    rw [arr_get hd (by simp; omega), List.getElem_append_left (by simp; omega), List.getElem_append_right (by omega)]
    simp [hm]
  refine ⟨fun v hv => ?_, fun v hv => ?_⟩
  · obtain ⟨i, hi, rfl⟩ := List.getElem_of_mem hv
    rw [List.length_take] at hi
    exact ⟨m + i, by omega, by omega, by rw [e i (by omega), List.getElem_take]⟩
  · obtain ⟨i, hi, rfl⟩ := List.getElem_of_mem hv
    rw [List.length_drop] at hi
    exact ⟨m + (t + i), by omega, by omega, by rw [e (t + i) (by omega), List.getElem_drop]⟩
set_option maxHeartbeats 4000000 in
set_option maxRecDepth 1000000 in
theorem symm_one (k6 : Nat) (zE : ∀ w, (Go.sizeOf 26).run Try.prog w = .ok k6 w) (enc : Pt → List Value) (blk off cap : Nat) (d0 d : Array Pt) (w0 w : World) (R0 : RowK enc k6 w0 blk off d0) (hs : d.size = d0.size) (hsz : d0.size ≤ 1000000) (S : SWK enc k6 w0 blk off d w)
    (hcmp : CmpLays Try.prog 61 #[] enc k6 cmpB blk off d0.size w0)
    (L : List Pt) (x : Pt) (V R : List Pt) (hd : d.toList = L ++ [x] ++ V ++ R) (hV : SrtB V) (hV0 : 0 < V.length) (a m b : Nat) (ha : a = L.length) (hm : m = L.length + 1) (hb : b = L.length + 1 + V.length) :
    Calls Try.prog 89 #[.slice (some ⟨blk, off, none⟩) d0.size cap, .int .i64 a, .int .i64 m, .int .i64 b, .func (.func 61) #[] #[]] w fun e w' => e = .returned (.tuple #[]) ∧ ∃ T d', d'.toList = L ++ T ++ R ∧ SrtB T ∧ Stab ([x] ++ V) T ∧ SWK enc k6 w0 blk off d' w' := by
  have S0 : Aside (SWK enc k6 w0 blk off d w) := S
  have HC : Aside _ := hcmp
  have HS := Lib.hid hs
  have hlen : L.length + 1 + V.length + R.length = d0.size := by
    have := congrArg List.length hd
    simp at this; omega
  have HR := Lib.hid (arr_run (L := L ++ [x]) hd hV (m := m) (b := b) (by simp; omega) (by simp; omega))
  have HX := Lib.hid (show d[a]! = x from arr_mid (L := L) (R := V ++ R) (by rw [hd]; simp) ha)
  have HD := Lib.hid hd; have HVs := Lib.hid hV; have HVm := Lib.hid (fun t => arr_mem (L := L ++ [x]) (V := V) (R := R) hd (m := m) (by simp; omega) t)
  have hbs : b ≤ d0.size := by omega
  have HAM := Lib.hid (show m = a + 1 by omega)
  have ham : a < m := by omega
  have hmb : m < b := by omega
  have HL := Lib.hid (And.intro ha hb)
  clear S hcmp hs hd hV hlen ha hm hb hV0
  have mixed : Try.prog.follows .mixedOrders = true := by kernel_rfl
  have t0 := Try.underlying0; have a0 := Try.isAgg0; have z0 := Try.sizeOf0; have v0 := Try.zeroValue0
  have t3 := Try.underlying3; have a3 := Try.isAgg3; have z3 := Try.sizeOf3; have v3 := Try.zeroValue3
  have t4 := Try.underlying4; have a4 := Try.isAgg4; have z4 := Try.sizeOf4; have v4 := Try.zeroValue4
  have t22 := Try.underlying37; have a22 := Try.isAgg37; have z22 := Try.sizeOf37; have v22 := Try.zeroValue37
  have aE := Try.isAgg26
  have t86 := Try.underlying86; have a86 := Try.isAgg86; have z86 := Try.sizeOf86; have v86 := Try.zeroValue86
  have F := Try.func89
  have eg : ∀ args w, (callFunc 61 args).run Try.prog w = .ok (.enter 61 args) w := enters_of Try.func61 (by kernel_rfl) rfl
  generalize Try.prog = P at *
  go_enter F, Try.ntmps89
  have h11 : ((m : Int) - (a : Int) == 1) = true := by have := HAM.out; simp; omega
  go_wp2_with fail
  go_loopw [10, 11] (fun iv jv wr => ∃ (i j : Nat), iv = .int .i64 i ∧ jv = .int .i64 j ∧ m ≤ i ∧ i ≤ j ∧ j ≤ b ∧ Hid (∀ c, m ≤ c → c < i → bef d[c]! x) ∧ Hid (∀ c, j ≤ c → c < b → ¬ bef d[c]! x) ∧ Aside (SWK enc k6 w0 blk off d wr)) (fun iv jv _ => (intOf jv).toNat - (intOf iv).toNat)
  case atStart => exact ⟨m, b, rfl, rfl, Nat.le_refl _, by omega, Nat.le_refl _, Lib.hid (fun c h1 h2 => by omega), Lib.hid (fun c h1 h2 => by omega), S0⟩
  case round =>
    clear S0
    obtain ⟨i, j, rfl, rfl, hi, hij, hjb, HB, HA, SU⟩ := hrel
    by_cases hlt : i < j
    · have hltz : (i : Int) < (j : Int) := by omega
      go_upto_region 5 with (fail)
      obtain ⟨h, eh, hh1, hh2⟩ : ∃ h : Nat, ((i : Int) + j) / 2 = h ∧ i ≤ h ∧ h < j := ⟨(i + j) / 2, by omega, by omega, by omega⟩
      rw [eh]
      clear eh
      have e5a : ((h : Nat) : Int).toNat = h := by omega
      have p5a : (0 : Int) ≤ ((h : Nat) : Int) := by omega
      have b5a : ((h : Nat) : Int) < (d0.size : Int) := by omega
      have r5a : IntKind.i64.wrap ((h : Nat) : Int) = ((h : Nat) : Int) := wrap_id (by unfold I64; omega)
      have e5b : ((a : Nat) : Int).toNat = a := by omega
      have p5b : (0 : Int) ≤ ((a : Nat) : Int) := by omega
      have b5b : ((a : Nat) : Int) < (d0.size : Int) := by omega
      have r5b : IntKind.i64.wrap ((a : Nat) : Int) = ((a : Nat) : Int) := wrap_id (by unfold I64; omega)
      obtain ⟨x5, hx5⟩ : ∃ x, x = d[h]! := ⟨_, rfl⟩
      obtain ⟨y5, hy5⟩ : ∃ x, x = d[a]! := ⟨_, rfl⟩
      have l5a := SU.out.ld R0 HS.out P (h) (by have := HS.out; omega)
      have l5b := SU.out.ld R0 HS.out P (a) (by have := HS.out; omega)
      rw [← hx5] at l5a
      rw [← hy5] at l5b
      have hc5 := SU.out.cmp HC.out HS.out x5 y5
      by_cases hb : bef x5 y5
      · have HB2 := Lib.hid (show ∀ c, m ≤ c → c < h + 1 → bef d[c]! x from fun c h1 h2 => by
          rw [hx5, hy5, HX.out] at hb
          exact leB_bef (HR.out c h h1 (by omega) (by omega)) hb)
        have hv5 : cmpB x5 y5 < 0 := by unfold cmpB; rw [if_pos hb]; decide
        have hd5 : decide (cmpB x5 y5 < 0) = true := decide_eq_true hv5
        clear hx5 hy5 hb
        go_wp2_with fail
        go_quiet_grown (first | (go_at_fn 61; refine Calls.grown_of (hc5 _ _)))
        have SU2 : Aside (SWK enc k6 w0 blk off d (grow (wr.drewN nq) osq)) := SU.out.grown nq osq
        clear l5a l5b hc5 SU
        generalize grow (wr.drewN nq) osq = wu2 at SU2 ⊢
        clear nq osq
        go_wp2
        go_roundw
        case rel => exact ⟨h + 1, j, by go_num, rfl, by omega, by omega, hjb, HB2, HA, SU2⟩
        case measure => simp [intOf]; omega
      · have HA2 := Lib.hid (show ∀ c, h ≤ c → c < b → ¬ bef d[c]! x from fun c h1 h2 z => by
          rw [hx5, hy5, HX.out] at hb
          exact hb (leB_bef (HR.out h c (by omega) h1 h2) z))
        have hv5 : ¬ cmpB x5 y5 < 0 := by unfold cmpB; rw [if_neg hb]; split <;> decide
        have hd5 : decide (cmpB x5 y5 < 0) = false := decide_eq_false hv5
        clear hx5 hy5 hb
        go_wp2_with fail
        go_quiet_grown (first | (go_at_fn 61; refine Calls.grown_of (hc5 _ _)))
        have SU2 : Aside (SWK enc k6 w0 blk off d (grow (wr.drewN nq) osq)) := SU.out.grown nq osq
        clear l5a l5b hc5 SU
        generalize grow (wr.drewN nq) osq = wu2 at SU2 ⊢
        clear nq osq
        go_wp2
        go_roundw
        case rel => exact ⟨i, h, rfl, rfl, hi, hh1, by omega, HB, HA2, SU2⟩
        case measure => simp [intOf]; omega
    · obtain rfl : i = j := by omega
      clear hlt
      obtain ⟨t, et⟩ : ∃ t, i - m = t := ⟨_, rfl⟩
      obtain ⟨V1, eV1⟩ : ∃ V1, V.take t = V1 := ⟨_, rfl⟩
      obtain ⟨V2, eV2⟩ : ∃ V2, V.drop t = V2 := ⟨_, rfl⟩
      have EV := Lib.hid (show V = V1 ++ V2 by rw [← eV1, ← eV2, List.take_append_drop])
      have HV1 := Lib.hid (show V1.length = t by rw [← eV1, List.length_take]; have := HL.out; omega)
      have HM1 := Lib.hid (show ∀ v ∈ V1, bef v x from fun v hv => by
        rw [← eV1] at hv
        obtain ⟨c, c1, c2, rfl⟩ := (HVm.out t).1 v hv
        exact HB.out c c1 (by omega))
      have HM2 := Lib.hid (show ∀ v ∈ V2, leB x v from fun v hv => by
        rw [← eV2] at hv
        obtain ⟨c, c1, c2, rfl⟩ := (HVm.out t).2 v hv
        exact HA.out c (by omega) (by have := HL.out; have := HAM.out; omega))
      have HI := Lib.hid (show i = m + t by omega)
      have hti : m + t ≤ i := by omega
      clear et eV1 eV2 HB HA HVm HR
      have S2 := SU
      clear SU
      go_wp2_with fail
      go_loopw [13] (fun kv wr => ∃ (q : Nat) (dk : Array Pt), kv = .int .i64 ((a + q : Nat) : Int) ∧ q ≤ t ∧ Hid (dk.toList = L ++ V1.take q ++ x :: (V1.drop q ++ (V2 ++ R))) ∧ Aside (SWK enc k6 w0 blk off dk wr)) (fun kv _ => a + t - (intOf kv).toNat)
      case atStart => exact ⟨0, d, rfl, Nat.zero_le _, Lib.hid (by rw [HD.out, EV.out]; simp), S2⟩
      case round =>
        clear S2
        obtain ⟨q, dk, rfl, hq, HK, S1⟩ := hrel
        have HS1 := Lib.hid (show dk.size = d0.size by
          have h := congrArg List.length HK.out
          have h1 := congrArg List.length HD.out
          have h2 := congrArg List.length EV.out
          have h3 := HS.out; have h4 := HV1.out
          simp at h h1 h2; omega)
        by_cases hlt : q < t
        · have hltz2 : ((a + q : Nat) : Int) < (i : Int) - 1 := by have := HI.out; have := HAM.out; omega
          have HK2 := Lib.hid (show (swp dk (a + q) (a + q + 1)).toList = L ++ V1.take (q + 1) ++ x :: (V1.drop (q + 1) ++ (V2 ++ R)) by
            have hql : q < V1.length := by have := HV1.out; omega
            have e1 : V1.drop q = V1[q] :: V1.drop (q + 1) := List.drop_eq_getElem_cons hql
            have e2 : V1.take (q + 1) = V1.take q ++ [V1[q]] := List.take_succ_eq_append_getElem hql
            have h' := HK.out
            rw [e1] at h'
            have := swp_list (d := dk) (L := L ++ V1.take q) (M := []) (R := V1.drop (q + 1) ++ (V2 ++ R)) (x := x) (y := V1[q]) (by rw [h']; simp only [List.cons_append, List.nil_append]) (i := a + q) (j := a + q + 1) (by have := HL.out; simp; omega) (by have := HL.out; simp; omega)
            rw [this, e2]
            simp only [List.append_assoc, List.cons_append, List.nil_append])
          have S2 : Aside (SWK enc k6 w0 blk off (swp dk (a + q) (a + q + 1)) ((wr.drew.setCells blk (off + (a + q) * k6) (enc dk[a + q + 1]!)).setCells blk (off + (a + q + 1) * k6) (enc dk[a + q]!))) := S1.out.swapped R0 (a + q) (a + q + 1) (by have := HS1.out; omega) (by have := HS1.out; omega)
          have la := S1.out.ld1 R0 HS1.out P (a + q) (by have := HS1.out; omega)
          have lb := S1.out.ld1 R0 HS1.out P (a + q + 1) (by have := HS1.out; omega)
          have sa := S1.out.st1 R0 HS1.out P (a + q) (by have := HS1.out; omega) dk[a + q + 1]!
          have sb1 := S1.out.st2 R0 HS1.out P (a + q) (a + q + 1) (by have := HS1.out; omega) (by have := HS1.out; omega) dk[a + q + 1]! dk[a + q]!
          have na : (enc dk[a + q]!).length = k6 := R0.hk _
          have nb : (enc dk[a + q + 1]!).length = k6 := R0.hk _
          generalize enc dk[a + q]! = cI at S2 la sb1 na
          generalize enc dk[a + q + 1]! = cJ at S2 lb sa sb1 nb
          clear S1
          obtain ⟨z, hz⟩ : ∃ z, a + q = z := ⟨_, rfl⟩
          rw [hz] at S2 la lb sa sb1 HK2 ⊢
          have hzb : z + 1 < d0.size := by omega
          have pa : (0 : Int) ≤ (z : Int) := by omega
          have pb : (0 : Int) ≤ (z : Int) + 1 := by omega
          have ba : (z : Int) < (d0.size : Int) := by omega
          have bb : (z : Int) + 1 < (d0.size : Int) := by omega
          have ea : (z : Int).toNat = z := by omega
          have eb : ((z : Int) + 1).toNat = z + 1 := by omega
          have ra : IntKind.i64.wrap (z : Int) = (z : Int) := wrap_id (by unfold I64; omega)
          have rb : IntKind.i64.wrap ((z : Int) + 1) = (z : Int) + 1 := wrap_id (by unfold I64; omega)
          have hltz3 : (z : Int) < (i : Int) - 1 := by omega
          have HZ := Lib.hid hz
          clear hz hltz2
          go_wp2_with fail
          go_big_region_o
          clear la lb sa sb1
          generalize (wr.drew.setCells blk (off + z * k6) cJ).setCells blk (off + (z + 1) * k6) cI = w2 at S2 ⊢
          go_wp2
          go_roundw
          case rel => exact ⟨q + 1, swp dk z (z + 1), by have := HZ.out; congr 1; omega, by omega, HK2, S2⟩
          case measure => have := HZ.out; simp [intOf]; omega
        · obtain rfl : q = t := by omega
          have hltz : ¬ ((a + q : Nat) : Int) < (i : Int) - 1 := by have := HI.out; have := HAM.out; omega
          have HF := Lib.hid (show dk.toList = L ++ (V1 ++ ([x] ++ V2)) ++ R by
            rw [HK.out, List.take_of_length_le (Nat.le_of_eq HV1.out), List.drop_eq_nil_of_le (Nat.le_of_eq HV1.out)]; simp)
          have hVs := HVs.out
          rw [EV.out] at hVs
          have HMG := Lib.hid (merge_parts (U1 := []) (U2 := [x]) (V1 := V1) (V2 := V2) (T1 := V1) (T2 := [x] ++ V2) (List.pairwise_singleton _ _) hVs (fun v hv u hu => by rw [List.mem_singleton.1 hu]; exact HM1.out v hv) (fun u hu => by cases hu) (List.pairwise_append.1 hVs).1 Stab.rfl' (List.pairwise_cons.2 ⟨HM2.out, (List.pairwise_append.1 hVs).2.1⟩) Stab.rfl')
          clear hVs
          go_wp2
          refine bodyPost_ret (results_none rfl _ _ _) rfl ⟨rfl, _, dk, by have := HF.out; simpa [List.append_assoc] using this, HMG.out.1, by have := HMG.out.2; rw [← EV.out] at this; exact this, S1.out⟩
end Go.Proofs.Ytpnpnjfflblkpaa

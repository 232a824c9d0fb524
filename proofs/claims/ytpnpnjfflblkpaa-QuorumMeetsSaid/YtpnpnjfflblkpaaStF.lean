/- The stable sort, walked: a merge in place. -/
import Derived.Test.YtpnpnjfflblkpaaStE
import Derived.Deep.CutBlock
namespace Go.Proofs.Ytpnpnjfflblkpaa
open Go.Shelf Go.RowKit Go.Lib Go.Sort

/-- What a merge in place leaves. -/
def SymPost (enc : Pt → List Value) (k6 : Nat) (w0 : World) (blk off : Nat) (L U V R : List Pt) (e : Ending) (w' : World) : Prop :=
  e = .returned (.tuple #[]) ∧ ∃ T d', d'.toList = L ++ T ++ R ∧ SrtB T ∧ Stab (U ++ V) T ∧ SWK enc k6 w0 blk off d' w'
def HasL (enc : Pt → List Value) (k6 : Nat) (w0 : World) (blk off : Nat) (l : List Pt) (w : World) : Prop := ∃ d : Array Pt, d.toList = l ∧ SWK enc k6 w0 blk off d w
def HasT (enc : Pt → List Value) (k6 : Nat) (w0 : World) (blk off : Nat) (L U V R : List Pt) (w : World) : Prop := ∃ T, SrtB T ∧ Stab (U ++ V) T ∧ HasL enc k6 w0 blk off (L ++ T ++ R) w
set_option maxHeartbeats 8000000 in
set_option maxRecDepth 1000000 in
theorem symm_calls (k6 : Nat) (zE : ∀ w, (Go.sizeOf 26).run Try.prog w = .ok k6 w) (enc : Pt → List Value) (blk off cap : Nat) (d0 : Array Pt) (w0 : World) (R0 : RowK enc k6 w0 blk off d0) (hsz : d0.size ≤ 1000000)
    (hcmp : CmpLays Try.prog 61 #[] enc k6 cmpB blk off d0.size w0) :
    ∀ (N : Nat) (L U V R : List Pt) (w : World), U.length + V.length ≤ N → 0 < U.length → 0 < V.length → SrtB U → SrtB V → L.length + U.length + V.length + R.length = d0.size → HasL enc k6 w0 blk off (L ++ U ++ V ++ R) w →
      ∀ a m b : Nat, a = L.length → m = L.length + U.length → b = L.length + U.length + V.length →
    Calls Try.prog 89 #[.slice (some ⟨blk, off, none⟩) d0.size cap, .int .i64 a, .int .i64 m, .int .i64 b, .func (.func 61) #[] #[]] w (SymPost enc k6 w0 blk off L U V R) := by
  intro N
  induction N with
  | zero => intro L U V R w h h1; omega
  | succ N ih =>
    intro L U V R w hN hU0 hV0 hU hV hlen hL a m b ha hm hb
    obtain ⟨d, hd, S⟩ := hL
    have hs : d.size = d0.size := by
      have := congrArg List.length hd
      simp at this; omega
    by_cases hU1 : U.length = 1
    · obtain ⟨x, rfl⟩ := List.length_eq_one_iff.1 hU1
      exact symm_one k6 zE enc blk off cap d0 d w0 w R0 hs hsz S hcmp L x V R hd hV hV0 a m b ha (by simpa using hm) (by simpa using hb)
    · by_cases hV1 : V.length = 1
      · obtain ⟨y, rfl⟩ := List.length_eq_one_iff.1 hV1
        exact symm_two k6 zE enc blk off cap d0 d w0 w R0 hs hsz S hcmp L y U R hd hU (by omega) a m b ha hm (by simpa using hb)
      · have S0 : Aside (SWK enc k6 w0 blk off d w) := S
        have HC : Aside _ := hcmp
        have HS := Lib.hid hs
        have hdU : d.toList = L ++ U ++ (V ++ R) := by rw [hd]; simp
        have HRU := Lib.hid (arr_run (L := L) hdU hU (m := a) (b := m) ha hm)
        have HRV := Lib.hid (arr_run (L := L ++ U) hd hV (m := m) (b := b) (by simp; omega) (by simp; omega))
        have HMU := Lib.hid (fun t => arr_mem (L := L) (V := U) (R := V ++ R) hdU (m := a) ha t)
        have HMV := Lib.hid (fun t => arr_mem (L := L ++ U) (V := V) (R := R) hd (m := m) (by simp; omega) t)
        have hbs : b ≤ d0.size := by omega
        have ham : a + 1 < m := by omega
        have hmb : m + 1 < b := by omega
        have HL := Lib.hid (show a = L.length ∧ m = a + U.length ∧ b = m + V.length from ⟨ha, by omega, by omega⟩)
        have HD := Lib.hid hd; have HUs := Lib.hid hU; have HVs := Lib.hid hV; have HN := Lib.hid hN; have Hlen := Lib.hid hlen
        have HROT := Lib.hid (fun (d : Array Pt) (w : World) (hs : d.size = d0.size) (S : SWK enc k6 w0 blk off d w) (cv : Value) (L U V R : List Pt) (hd : d.toList = L ++ U ++ V ++ R) (a m b : Nat) (hU : 0 < U.length) (hV : 0 < V.length) (ha : a = L.length) (hm : m = L.length + U.length) (hb : b = L.length + U.length + V.length) =>
          rot_calls k6 zE enc blk off cap d0 d w0 w R0 hs hsz S cv L U V R hd a m b hU hV ha hm hb)
        have IH := Lib.hid ih
        clear S hcmp hs hd hU hV hlen ha hm hb hU0 hV0 hdU hU1 hV1 hN ih
        have mixed : Try.prog.follows .mixedOrders = true := by kernel_rfl
        have t0 := Try.underlying0; have a0 := Try.isAgg0; have z0 := Try.sizeOf0; have v0 := Try.zeroValue0
        have t3 := Try.underlying3; have a3 := Try.isAgg3; have z3 := Try.sizeOf3; have v3 := Try.zeroValue3
        have t4 := Try.underlying4; have a4 := Try.isAgg4; have z4 := Try.sizeOf4; have v4 := Try.zeroValue4
        have t22 := Try.underlying37; have a22 := Try.isAgg37; have z22 := Try.sizeOf37; have v22 := Try.zeroValue37
        have aE := Try.isAgg26
        have t86 := Try.underlying86; have a86 := Try.isAgg86; have z86 := Try.sizeOf86; have v86 := Try.zeroValue86
        have F := Try.func89
        have eg : ∀ args w, (callFunc 61 args).run Try.prog w = .ok (.enter 61 args) w := enters_of Try.func61 (by kernel_rfl) rfl
        have egr : ∀ args w, (callFunc 91 args).run Try.prog w = .ok (.enter 91 args) w := enters_of Try.func91 (by kernel_rfl) rfl
        have egm : ∀ args w, (callFunc 89 args).run Try.prog w = .ok (.enter 89 args) w := enters_of Try.func89 (by kernel_rfl) rfl
        generalize Try.prog = P at *
        go_enter F, Try.ntmps89
        have h11 : ((m : Int) - (a : Int) == 1) = false := by simp; omega
        have h12 : ((b : Int) - (m : Int) == 1) = false := by simp; omega
        go_upto_region 27 with (fail)
        obtain ⟨mid, emid, hmid1, hmid2, hmid3⟩ : ∃ mid : Nat, ((a : Int) + b) / 2 = mid ∧ a < mid ∧ mid < b ∧ 2 * mid ≤ a + b ∧ a + b < 2 * mid + 2 := ⟨(a + b) / 2, by omega, by omega, by omega, by omega, by omega⟩
        rw [emid]
        clear emid
        obtain ⟨n, en, hn⟩ : ∃ n : Nat, (mid : Int) + m = n ∧ n = mid + m := ⟨mid + m, by omega, rfl⟩
        rw [en]
        have Hn := Lib.hid hn
        have Hmid := Lib.hid (And.intro hmid2 hmid3)
        have hnb : n < m + b := by omega
        have hmn : mid < n := by omega
        clear en hn
        go_upto_if 140 with (fail)
        go_cut [20, 21] (fun sv rv wx => ∃ s0 r0 : Nat, sv = .int .i64 s0 ∧ rv = .int .i64 r0 ∧ a ≤ s0 ∧ s0 ≤ r0 ∧ r0 ≤ m ∧ r0 ≤ mid ∧ n ≤ s0 + b ∧ Hid ((s0 = a ∨ s0 + b = n) ∧ (r0 = m ∨ r0 = mid)) ∧ w = wx)
        case first =>
          as_aux_lemma =>
            by_cases hmm : mid < m
            · have hmi : (mid : Int) < m := by omega
              go_wp2_with fail
              go_meet
              have hn := Hn.out
              exact ⟨n - b, mid, by congr 1; omega, rfl, by omega, by omega, by omega, by omega, by omega, Lib.hid ⟨.inr (by omega), .inr rfl⟩, rfl⟩
            · have hmi : ¬ (mid : Int) < m := by omega
              go_wp2_with fail
              go_meet
              have hn := Hn.out
              exact ⟨a, m, rfl, rfl, by omega, by omega, by omega, by omega, by omega, Lib.hid ⟨.inl rfl, .inl rfl⟩, rfl⟩
        case rest =>
          as_aux_lemma =>
            obtain ⟨s0, r0, rfl, rfl, hs1, hs2, hr1, hr2, hs3, HSR, rfl⟩ := hcut
            clear hmid2 hmid3
            go_upto_region 33 with (fail)
            obtain ⟨pp, ep, hpp⟩ : ∃ pp : Nat, (n : Int) - 1 = pp ∧ pp + 1 = n := ⟨n - 1, by omega, by omega⟩
            rw [ep]
            clear ep
            have HPP := Lib.hid hpp
            clear hpp
            have hppn : n ≤ pp + 1 := by have := HPP.out; omega
            have hnpp : pp < n := by have := HPP.out; omega
            go_loopw [20, 21, 23] (fun sv rv _ wr => ∃ s r : Nat, sv = .int .i64 s ∧ rv = .int .i64 r ∧ s0 ≤ s ∧ s ≤ r ∧ r ≤ r0 ∧ Hid (∀ c, s0 ≤ c → c < s → ¬ bef d[pp - c]! d[c]!) ∧ Hid (∀ c, r ≤ c → c < r0 → bef d[pp - c]! d[c]!) ∧ Aside (SWK enc k6 w0 blk off d wr)) (fun sv rv _ _ => (intOf rv).toNat - (intOf sv).toNat)
            case atStart => exact ⟨s0, r0, rfl, rfl, Nat.le_refl _, hs2, Nat.le_refl _, Lib.hid (fun c h1 h2 => by omega), Lib.hid (fun c h1 h2 => by omega), S0⟩
            case round =>
              as_aux_lemma =>
                clear S0
                obtain ⟨s, r, rfl, rfl, hss, hsr, hrr, HB, HA, SU⟩ := hrel
                by_cases hlt : s < r
                · have hltz : (s : Int) < (r : Int) := by omega
                  go_upto_region 35 with (fail)
                  obtain ⟨c, ec, hc1, hc2⟩ : ∃ c : Nat, ((s : Int) + r) / 2 = c ∧ s ≤ c ∧ c < r := ⟨(s + r) / 2, by omega, by omega, by omega⟩
                  rw [ec]
                  clear ec
                  obtain ⟨q, eq, hq⟩ : ∃ q : Nat, (pp : Int) - c = q ∧ q = pp - c := ⟨pp - c, by omega, rfl⟩
                  have hqm : m ≤ q := by have := Hn.out; omega
                  have hqb : q < b := by omega
                  have wq : IntKind.i64.wrap ((pp : Int) - (c : Int)) = (q : Int) := by rw [eq]; exact wrap_id (by unfold I64; omega)
                  have HQ := Lib.hid hq
                  clear hq
                  have e5a : ((q : Nat) : Int).toNat = q := by omega
                  have p5a : (0 : Int) ≤ ((q : Nat) : Int) := by omega
                  have b5a : ((q : Nat) : Int) < (d0.size : Int) := by omega
                  have r5a : IntKind.i64.wrap ((q : Nat) : Int) = ((q : Nat) : Int) := wrap_id (by unfold I64; omega)
                  have e5b : ((c : Nat) : Int).toNat = c := by omega
                  have p5b : (0 : Int) ≤ ((c : Nat) : Int) := by omega
                  have b5b : ((c : Nat) : Int) < (d0.size : Int) := by omega
                  have r5b : IntKind.i64.wrap ((c : Nat) : Int) = ((c : Nat) : Int) := wrap_id (by unfold I64; omega)
                  obtain ⟨x5, hx5⟩ : ∃ x, x = d[q]! := ⟨_, rfl⟩
                  obtain ⟨y5, hy5⟩ : ∃ x, x = d[c]! := ⟨_, rfl⟩
                  have l5a := SU.out.ld R0 HS.out P (q) (by have := HS.out; omega)
                  have l5b := SU.out.ld R0 HS.out P (c) (by have := HS.out; omega)
                  rw [← hx5] at l5a
                  rw [← hy5] at l5b
                  have hc5 := SU.out.cmp HC.out HS.out x5 y5
                  by_cases hb : bef x5 y5
                  · have HA2 := Lib.hid (show ∀ c', c ≤ c' → c' < r0 → bef d[pp - c']! d[c']! from fun c' h1 h2 => by
                      rw [hx5, hy5, HQ.out] at hb
                      have hn := Hn.out
                      exact bef_leB (leB_bef (HRV.out (pp - c') (pp - c) (by omega) (by omega) (by omega)) hb) (HRU.out c c' (by omega) h1 (by omega)))
                    have hv5 : cmpB x5 y5 < 0 := by unfold cmpB; rw [if_pos hb]; decide
                    have hd5 : decide (cmpB x5 y5 < 0) = true := decide_eq_true hv5
                    clear hx5 hy5 hb
                    go_quiet_grown (first | (go_at_fn 61; refine Calls.grown_of (hc5 _ _)))
                    have SU2 : Aside (SWK enc k6 w0 blk off d (grow (wr.drewN nq) osq)) := SU.out.grown nq osq
                    clear l5a l5b hc5 SU eq wq
                    generalize grow (wr.drewN nq) osq = wu2 at SU2 ⊢
                    clear nq osq
                    go_wp2
                    go_roundw
                    case rel => exact ⟨s, c, rfl, rfl, hss, hc1, by omega, HB, HA2, SU2⟩
                    case measure => simp [intOf]; omega
                  · have HB2 := Lib.hid (show ∀ c', s0 ≤ c' → c' < c + 1 → ¬ bef d[pp - c']! d[c']! from fun c' h1 h2 z => by
                      rw [hx5, hy5, HQ.out] at hb
                      have hn := Hn.out
                      exact hb (bef_leB (leB_bef (HRV.out (pp - c) (pp - c') (by omega) (by omega) (by omega)) z) (HRU.out c' c (by omega) (by omega) (by omega))))
                    have hv5 : ¬ cmpB x5 y5 < 0 := by unfold cmpB; rw [if_neg hb]; split <;> decide
                    have hd5 : decide (cmpB x5 y5 < 0) = false := decide_eq_false hv5
                    clear hx5 hy5 hb
                    go_quiet_grown (first | (go_at_fn 61; refine Calls.grown_of (hc5 _ _)))
                    have SU2 : Aside (SWK enc k6 w0 blk off d (grow (wr.drewN nq) osq)) := SU.out.grown nq osq
                    clear l5a l5b hc5 SU eq wq
                    generalize grow (wr.drewN nq) osq = wu2 at SU2 ⊢
                    clear nq osq
                    go_wp2
                    go_roundw
                    case rel => exact ⟨c + 1, r, by go_num, rfl, by omega, by omega, hrr, HB2, HA, SU2⟩
                    case measure => simp [intOf]; omega
                · obtain rfl : s = r := by omega
                  have hsm : s ≤ m := by omega
                  have hsmid : s ≤ mid := by omega
                  have has : a ≤ s := by omega
                  clear hlt
                  obtain ⟨U1, eU1⟩ : ∃ l, U.take (s - a) = l := ⟨_, rfl⟩
                  obtain ⟨U2, eU2⟩ : ∃ l, U.drop (s - a) = l := ⟨_, rfl⟩
                  obtain ⟨V1, eV1⟩ : ∃ l, V.take (mid - s) = l := ⟨_, rfl⟩
                  obtain ⟨V2, eV2⟩ : ∃ l, V.drop (mid - s) = l := ⟨_, rfl⟩
                  have HlU1 := Lib.hid (show U1.length = s - a by rw [← eU1, List.length_take]; have := HL.out; omega)
                  have HlU2 := Lib.hid (show U2.length = m - s by rw [← eU2, List.length_drop]; have := HL.out; omega)
                  have HlV1 := Lib.hid (show V1.length = mid - s by rw [← eV1, List.length_take]; have := HL.out; have := Hn.out; omega)
                  have HlV2 := Lib.hid (show V2.length = b + s - n by rw [← eV2, List.length_drop]; have := HL.out; have := Hn.out; omega)
                  have EU := Lib.hid (show U = U1 ++ U2 by rw [← eU1, ← eU2, List.take_append_drop])
                  have EV := Lib.hid (show V = V1 ++ V2 by rw [← eV1, ← eV2, List.take_append_drop])
                  have H12 := Lib.hid (show ∀ y ∈ V1, ∀ x ∈ U2, bef y x from fun y hy x hx => by
                    rw [← eV1] at hy
                    rw [← eU2] at hx
                    obtain ⟨c1, k1, k2, rfl⟩ := (HMV.out _).1 y hy
                    obtain ⟨c2, k3, k4, rfl⟩ := (HMU.out _).2 x hx
                    have h1 := HL.out; have h2 := Hn.out; have h3 := HPP.out
                    have h4 := HA.out s (Nat.le_refl _) (by rcases HSR.out.2 with h | h <;> omega)
                    exact bef_leB (leB_bef (HRV.out c1 (pp - s) k1 (by omega) (by omega)) h4) (HRU.out s c2 (by omega) (by omega) (by omega)))
                  have H21 := Lib.hid (show ∀ x ∈ U1, ∀ y ∈ V2, leB x y from fun x hx y hy => by
                    rw [← eU1] at hx
                    rw [← eV2] at hy
                    obtain ⟨c1, k1, k2, rfl⟩ := (HMU.out _).1 x hx
                    obtain ⟨c2, k3, k4, rfl⟩ := (HMV.out _).2 y hy
                    have h1 := HL.out; have h2 := Hn.out; have h3 := HPP.out
                    have h4 : leB d[s - 1]! d[pp - (s - 1)]! := HB.out (s - 1) (by rcases HSR.out.1 with h | h <;> omega) (by omega)
                    exact leB_trans (HRU.out c1 (s - 1) k1 (by omega) (by omega)) (leB_trans h4 (HRV.out (pp - (s - 1)) c2 (by omega) (by omega) (by omega))))
                  have hUs := HUs.out; have hVs := HVs.out
                  rw [EU.out] at hUs
                  rw [EV.out] at hVs
                  have HU12 := Lib.hid hUs; have HV12 := Lib.hid hVs
                  have HD5 := Lib.hid (show d.toList = L ++ U1 ++ U2 ++ V1 ++ (V2 ++ R) by rw [HD.out, EU.out, EV.out]; simp)
                  clear hrr hsr hUs hVs eU1 eU2 eV1 eV2 HRU HRV HMU HMV HA HB HSR
                  go_upto_region 39 with (fail)
                  obtain ⟨ed, eed, hed⟩ : ∃ ed : Nat, (n : Int) - s = ed ∧ ed + s = n := ⟨n - s, by omega, by omega⟩
                  rw [eed]
                  have HE := Lib.hid hed
                  have hed2 : ed ≤ b := by omega
                  have hed3 : mid ≤ ed := by have := Hn.out; omega
                  have hed4 : m ≤ ed := by have := Hn.out; omega
                  clear eed hed
                  go_cut [185] (fun c wx => c = .bool (decide (s < m ∧ s < mid)) ∧ wr = wx)
                  case first =>
                    as_aux_lemma =>
                      have hn := Hn.out; have he := HE.out
                      by_cases k1 : s < m
                      · have k1' : (s : Int) < m := by omega
                        by_cases k2 : s < mid
                        · have k2' : (m : Int) < ed := by omega
                          have K := Lib.hid (decide_eq_true (show s < m ∧ s < mid from ⟨k1, k2⟩))
                          clear hn he k1 k2
                          go_wp2_with fail
                          go_meet
                          exact ⟨by rw [K.out], rfl⟩
                        · have k2' : ¬ (m : Int) < ed := by omega
                          have K := Lib.hid (decide_eq_false (show ¬ (s < m ∧ s < mid) from fun z => k2 z.2))
                          clear hn he k1 k2
                          go_wp2_with fail
                          go_meet
                          exact ⟨by rw [K.out], rfl⟩
                      · have k1' : ¬ (s : Int) < m := by omega
                        have K := Lib.hid (decide_eq_false (show ¬ (s < m ∧ s < mid) from fun z => k1 z.1))
                        clear hn he k1
                        go_wp2_with fail
                        go_meet
                        exact ⟨by rw [K.out], rfl⟩
                  case rest =>
                    as_aux_lemma =>
                      obtain ⟨rfl, rfl⟩ := hcut
                      go_upto_if 185 with (fail)
                      go_cut [] (fun wx => HasL enc k6 w0 blk off (L ++ U1 ++ V1 ++ U2 ++ (V2 ++ R)) wx)
                      case first =>
                        as_aux_lemma =>
                          by_cases k : s < m ∧ s < mid
                          · rw [decide_eq_true k]
                            have HC1 := Lib.hid (HROT.out d wr HS.out SU.out (.func (.func 61) #[] #[]) (L ++ U1) U2 V1 (V2 ++ R) HD5.out s m ed (by have := HlU2.out; omega) (by have := HlV1.out; omega) (by have := HL.out; have := HlU1.out; simp; omega) (by have := HL.out; have := HlU1.out; have := HlU2.out; simp; omega) (by have := HL.out; have := HlU1.out; have := HlU2.out; have := HlV1.out; have := Hn.out; have := HE.out; simp; omega))
                            clear k
                            go_wp2_with (go_at_fn 91; refine HC1.out.mono ?_; rintro e w2 ⟨rfl, d2, h2, S2⟩; have H2 := Lib.hid h2; have S2 := Lib.hid S2; clear h2)
                            go_meet
                            exact ⟨d2, H2.out, S2.out⟩
                          · rw [decide_eq_false k]
                            have H2 := Lib.hid (show HasL enc k6 w0 blk off (L ++ U1 ++ V1 ++ U2 ++ (V2 ++ R)) wr from by
                              refine ⟨d, ?_, SU.out⟩
                              rw [HD5.out]
                              by_cases k1 : s < m
                              · have : V1 = [] := List.eq_nil_of_length_eq_zero (by have := HlV1.out; omega)
                                rw [this]; simp
                              · have : U2 = [] := List.eq_nil_of_length_eq_zero (by have := HlU2.out; omega)
                                rw [this]; simp)
                            clear k
                            go_wp2_with fail
                            go_meet
                            exact H2.out
                      case rest =>
                        as_aux_lemma =>
                          have H2 := Lib.hid hcut
                          clear hcut SU
                          obtain ⟨w2, rfl⟩ : ∃ w2 : World, w2 = wc := ⟨_, rfl⟩
                          go_upto_region 41 with (fail)
                          go_cut [199] (fun c wx => c = .bool (decide (a < s ∧ s < mid)) ∧ w2 = wx)
                          case first =>
                            as_aux_lemma =>
                              by_cases k1 : a < s
                              · have k1' : (a : Int) < s := by omega
                                by_cases k2 : s < mid
                                · have k2' : (s : Int) < mid := by omega
                                  have K := Lib.hid (decide_eq_true (show a < s ∧ s < mid from ⟨k1, k2⟩))
                                  clear k1 k2
                                  go_wp2_with fail
                                  go_meet
                                  exact ⟨by rw [K.out], rfl⟩
                                · have k2' : ¬ (s : Int) < mid := by omega
                                  have K := Lib.hid (decide_eq_false (show ¬ (a < s ∧ s < mid) from fun z => k2 z.2))
                                  clear k1 k2
                                  go_wp2_with fail
                                  go_meet
                                  exact ⟨by rw [K.out], rfl⟩
                              · have k1' : ¬ (a : Int) < s := by omega
                                have K := Lib.hid (decide_eq_false (show ¬ (a < s ∧ s < mid) from fun z => k1 z.1))
                                clear k1
                                go_wp2_with fail
                                go_meet
                                exact ⟨by rw [K.out], rfl⟩
                          case rest =>
                            as_aux_lemma =>
                              obtain ⟨rfl, rfl⟩ := hcut
                              go_upto_if 199 with (fail)
                              go_cut [] (fun wx => HasT enc k6 w0 blk off L U1 V1 (U2 ++ (V2 ++ R)) wx)
                              case first =>
                                as_aux_lemma =>
                                  have HU1s := Lib.hid (List.pairwise_append.1 HU12.out).1
                                  have HV1s := Lib.hid (List.pairwise_append.1 HV12.out).1
                                  by_cases k : a < s ∧ s < mid
                                  · rw [decide_eq_true k]
                                    have HC1 := Lib.hid (IH.out L U1 V1 (U2 ++ (V2 ++ R)) w2 (by have := Hmid.out; have := HlU1.out; have := HlV1.out; have := HN.out; have := HL.out; omega) (by have := HlU1.out; omega) (by have := HlV1.out; omega) HU1s.out HV1s.out (by have h0 := Hlen.out; rw [EU.out, EV.out] at h0; simp at h0 ⊢; omega) (by have h0 := H2.out; simpa [List.append_assoc] using h0) a s mid HL.out.1 (by have := HlU1.out; have := HL.out; omega) (by have := HlU1.out; have := HlV1.out; have := HL.out; omega))
                                    clear k
                                    go_wp2_with (go_at_fn 89; refine HC1.out.mono ?_; rintro e w3 ⟨rfl, T, d3, h3, hT, hst, S3⟩; have H3 := Lib.hid (show HasT enc k6 w0 blk off L U1 V1 (U2 ++ (V2 ++ R)) w3 from ⟨T, hT, hst, d3, h3, S3⟩); clear h3 hT hst S3)
                                    go_meet
                                    exact H3.out
                                  · rw [decide_eq_false k]
                                    have H3 := Lib.hid (show HasT enc k6 w0 blk off L U1 V1 (U2 ++ (V2 ++ R)) w2 from by
                                      refine ⟨U1 ++ V1, ?_, Stab.rfl', by have h0 := H2.out; simpa [List.append_assoc] using h0⟩
                                      by_cases k1 : a < s
                                      · have : V1 = [] := List.eq_nil_of_length_eq_zero (by have := HlV1.out; omega)
                                        rw [this, List.append_nil]; exact HU1s.out
                                      · have : U1 = [] := List.eq_nil_of_length_eq_zero (by have := HlU1.out; omega)
                                        rw [this, List.nil_append]; exact HV1s.out)
                                    clear k
                                    go_wp2_with fail
                                    go_meet
                                    exact H3.out
                              case rest =>
                                as_aux_lemma =>
                                  obtain ⟨T1, hT1, hst1, hh1⟩ := hcut
                                  have HT1 := Lib.hid hT1; have HS1 := Lib.hid hst1
                                  have HlT1 := Lib.hid hst1.len
                                  have H3 := Lib.hid hh1
                                  clear hT1 hst1 hh1 H2
                                  obtain ⟨w3, rfl⟩ : ∃ w2 : World, w2 = wc := ⟨_, rfl⟩
                                  go_upto_region 43 with (fail)
                                  go_cut [213] (fun c wx => c = .bool (decide (mid < ed ∧ ed < b)) ∧ w3 = wx)
                                  case first =>
                                    as_aux_lemma =>
                                      by_cases k1 : mid < ed
                                      · have k1' : (mid : Int) < ed := by omega
                                        by_cases k2 : ed < b
                                        · have k2' : (ed : Int) < b := by omega
                                          have K := Lib.hid (decide_eq_true (show mid < ed ∧ ed < b from ⟨k1, k2⟩))
                                          clear k1 k2
                                          go_wp2_with fail
                                          go_meet
                                          exact ⟨by rw [K.out], rfl⟩
                                        · have k2' : ¬ (ed : Int) < b := by omega
                                          have K := Lib.hid (decide_eq_false (show ¬ (mid < ed ∧ ed < b) from fun z => k2 z.2))
                                          clear k1 k2
                                          go_wp2_with fail
                                          go_meet
                                          exact ⟨by rw [K.out], rfl⟩
                                      · have k1' : ¬ (mid : Int) < ed := by omega
                                        have K := Lib.hid (decide_eq_false (show ¬ (mid < ed ∧ ed < b) from fun z => k1 z.1))
                                        clear k1
                                        go_wp2_with fail
                                        go_meet
                                        exact ⟨by rw [K.out], rfl⟩
                                  case rest =>
                                    as_aux_lemma =>
                                      obtain ⟨rfl, rfl⟩ := hcut
                                      have HU2s := Lib.hid (List.pairwise_append.1 HU12.out).2.1
                                      have HV2s := Lib.hid (List.pairwise_append.1 HV12.out).2.1
                                      by_cases k : mid < ed ∧ ed < b
                                      · rw [decide_eq_true k]
                                        have HC1 := Lib.hid (IH.out (L ++ T1) U2 V2 R w3 (by have := Hn.out; have := HlU2.out; have := HlV2.out; have := HN.out; have := HL.out; have := HE.out; omega) (by have := HlU2.out; have := HE.out; have := Hn.out; omega) (by have := HlV2.out; have := HE.out; omega) HU2s.out HV2s.out (by have h0 := Hlen.out; have h1 := HlT1.out; rw [EU.out, EV.out] at h0; simp at h0 h1 ⊢; omega) (by have h0 := H3.out; simpa [List.append_assoc] using h0) mid ed b (by have h1 := HlT1.out; have := HlU1.out; have := HlV1.out; have := HL.out; simp at h1 ⊢; omega) (by have h1 := HlT1.out; have := HlU1.out; have := HlV1.out; have := HlU2.out; have := HL.out; have := HE.out; have := Hn.out; simp at h1 ⊢; omega) (by have h1 := HlT1.out; have := HlU1.out; have := HlV1.out; have := HlU2.out; have := HlV2.out; have := HL.out; have := HE.out; have := Hn.out; simp at h1 ⊢; omega))
                                        clear k
                                        go_wp2_with (go_at_fn 89; refine HC1.out.mono ?_; rintro e w4 ⟨rfl, T2, d4, h4, hT2, hst2, S4⟩; have H4 := Lib.hid (And.intro h4 S4); have HMG := Lib.hid (merge_parts HU12.out HV12.out H12.out H21.out HT1.out HS1.out hT2 hst2); clear h4 hT2 hst2 S4)
                                        refine bodyPost_end (results_none rfl _ _ _) rfl ⟨rfl, T1 ++ T2, d4, by have := H4.out.1; simpa [List.append_assoc] using this, HMG.out.1, by have := HMG.out.2; rw [← EU.out, ← EV.out] at this; exact this, H4.out.2⟩
                                      · rw [decide_eq_false k]
                                        have HMG := Lib.hid (merge_parts HU12.out HV12.out H12.out H21.out HT1.out HS1.out (T2 := U2 ++ V2) (by
                                          by_cases k1 : mid < ed
                                          · have : V2 = [] := List.eq_nil_of_length_eq_zero (by have := HlV2.out; have := HE.out; omega)
                                            rw [this, List.append_nil]; exact HU2s.out
                                          · have : U2 = [] := List.eq_nil_of_length_eq_zero (by have := HlU2.out; have := HE.out; have := Hn.out; omega)
                                            rw [this, List.nil_append]; exact HV2s.out) Stab.rfl')
                                        clear k
                                        go_wp2_with fail
                                        obtain ⟨d4, h4, S4⟩ := H3.out
                                        refine bodyPost_end (results_none rfl _ _ _) rfl ⟨rfl, T1 ++ (U2 ++ V2), d4, by simpa [List.append_assoc] using h4, HMG.out.1, by have := HMG.out.2; rw [← EU.out, ← EV.out] at this; exact this, S4⟩
end Go.Proofs.Ytpnpnjfflblkpaa

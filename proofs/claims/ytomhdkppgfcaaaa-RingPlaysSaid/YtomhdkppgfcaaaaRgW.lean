/- The ring: whom the reference prefers. -/
import Derived.Test.YtomhdkppgfcaaaaRgV
namespace Go.Proofs.Ytomhdkppgfcaaaa
open Go.RowKit

def stC (h : Int) (t : Nat) (x : Pt) : Bool := if t = 0 then !decide (x.1 < h) else decide (x.1 < h)
def stAcc (ps : List Pt) (h most : Int) : Nat → List Int
  | 0 => []
  | t + 1 => ((ps.filter (stC h t)).map (·.2)).foldl (prefStep most) (stAcc ps h most t)
def stTo (ps : List Pt) (h most : Int) (t i : Nat) : List Int := (((ps.take i).filter (stC h t)).map (·.2)).foldl (prefStep most) (stAcc ps h most t)
theorem stTo_zero (ps : List Pt) (h most : Int) (t : Nat) : stTo ps h most t 0 = stAcc ps h most t := by simp [stTo]
theorem stTo_all (ps : List Pt) (h most : Int) (t : Nat) : stTo ps h most t ps.length = stAcc ps h most (t + 1) := by unfold stTo; rw [List.take_length]; rfl
theorem stTo_yes {ps : List Pt} {h most : Int} {t i : Nat} (hi : i < ps.length) (hc : stC h t ps[i] = true) : stTo ps h most t (i + 1) = prefStep most (stTo ps h most t i) (ps[i]).2 := by
  unfold stTo
  rw [List.take_succ_eq_append_getElem hi, List.filter_append, List.filter_cons_of_pos (by simpa using hc), List.map_append, List.foldl_append]
  rfl
theorem stTo_no {ps : List Pt} {h most : Int} {t i : Nat} (hi : i < ps.length) (hc : stC h t ps[i] = false) : stTo ps h most t (i + 1) = stTo ps h most t i := by
  unfold stTo
  rw [List.take_succ_eq_append_getElem hi, List.filter_append, List.filter_cons_of_neg (by simp [hc])]
  simp
theorem stAcc_all {ps : List Pt} (hs : ps.Pairwise leP) (h most : Int) : stAcc ps h most 2 = prefer ps h most := by
  unfold prefer prefTo
  rw [List.take_of_length_le (by rw [rot_len ps (lo_le ps h)]; exact Nat.le_refl _), rot_filter hs, List.map_append, List.foldl_append]
  rfl
theorem prefStep_le (most : Int) (out : List Int) (n : Int) : (prefStep most out n).length ≤ out.length + 1 := by
  unfold prefStep; split
  · omega
  · simp
theorem foldP_le (most : Int) : ∀ (l out : List Int), (l.foldl (prefStep most) out).length ≤ out.length + l.length
  | [], out => by simp
  | x :: r, out => by
    have h1 := foldP_le most r (prefStep most out x)
    have h2 := prefStep_le most out x
    rw [List.foldl_cons, List.length_cons]; omega
theorem stTo_len (ps : List Pt) (h most : Int) (t i : Nat) (ht : t < 2) : (stTo ps h most t i).length ≤ 2 * ps.length := by
  unfold stTo
  have h1 := foldP_le most (((ps.take i).filter (stC h t)).map (·.2)) (stAcc ps h most t)
  have h2 : (((ps.take i).filter (stC h t)).map (·.2)).length ≤ ps.length := by
    rw [List.length_map]
    exact Nat.le_trans (List.length_filter_le _ _) (by rw [List.length_take]; omega)
  have h3 : (stAcc ps h most t).length ≤ ps.length := by
    match t, ht with
    | 0, _ => simp [stAcc]
    | 1, _ =>
      have := foldP_le most ((ps.filter (stC h 0)).map (·.2)) []
      have h4 := List.length_filter_le (stC h 0) ps
      simp only [List.length_nil, List.length_map] at this
      show (((ps.filter (stC h 0)).map (·.2)).foldl (prefStep most) []).length ≤ _
      omega
  omega
set_option maxRecDepth 100000 in
set_option maxHeartbeats 4000000 in
theorem rprefer_calls (v : Value) (l : List Int) (key : ByteArray) (most : Int) (w : World) (hv : rdRow w 1 v l.length (encI l)) (hk : l.length ≤ 1000000) (hkey : key.size ≤ 1000000) (ps : List Pt) (hps : IsPts (nodesOf l) ps) :
    Calls Try.prog 21 #[v, .string key, .int .i64 most] w fun e w' => ∃ v', e = .returned v' ∧ w'.ownsRow w.heap.size 3 1 v' (prefer ps (hashS key) most).length (encI (prefer ps (hashS key) most)) ∧ Gr w w' := by
  have hp := rpoints_calls v l w hv hk
  have Hp := Lib.hid hp
  have hpl : ps.length ≤ 128 := by rw [hps.len]; have := nodesTo_len l 16; unfold nodesOf; omega
  rw [← stAcc_all hps.2]
  have Hps := Lib.hid hps
  have Hh := Lib.hid (fun W => rhash_calls key hkey W)
  obtain ⟨h, hh⟩ : ∃ h, hashS key = h := ⟨_, rfl⟩
  rw [hh] at Hh ⊢
  have Hz := Lib.hid (stTo_zero ps h most); have Hall := Lib.hid (stTo_all ps h most)
  have Hlen := Lib.hid (stTo_len ps h most)
  clear hp hv hps hh
  obtain ⟨i0, hi, hz0, hz1, hz2⟩ := info_parts infoInt
  go_enter Try.func21, Try.ntmps21
  go_wp2_with fail
  refine Hp.out.mono ?_
  rintro e w1 ⟨v1, qs, rfl, hq, ho, hb⟩
  obtain rfl : ps = qs := isPts_unique Hps.out hq
  have hrd := rdRow_of_own ho
  obtain ⟨_, a1, c1, rfl, hc1, hcells⟩ := hrd
  have Hcells := Lib.hid hcells
  have Hb := Lib.hid hb
  clear hq ho hcells hb Hp
  go_wp2_with fail
  refine (Hh.out _).mono ?_
  rintro e w2 ⟨rfl, rfl⟩
  go_wp2_with fail
  have hb9 := Hb.out.size
  go_loopw [9, 10, 11, 12, 13] (fun u a _ _ _ wr => ∃ t : Nat, t ≤ 2 ∧ a = .int .i64 t ∧ wr.ownsRow w1.heap.size 3 1 u (stAcc ps h most t).length (encI (stAcc ps h most t)) ∧ Gr w1 wr) (fun _ a _ _ _ _ => 2 - (intOf a).toNat)
  case atStart => exact ⟨0, Nat.zero_le _, rfl, World.ownsRow_nil _ _ _ _, Gr.rfl'⟩
  case round =>
    obtain ⟨t, ht, rfl, hown, hg⟩ := hrel
    have Hown := Lib.hid hown; have Hg := Lib.hid hg
    obtain ⟨ua, uc, hu⟩ := own_slice hown
    subst hu
    clear hown hg
    by_cases ht2 : t < 2
    · have g1 : (t : Int) < 2 := by omega
      have Hst := Lib.hid (Hz.out t)
      obtain ⟨wo, rfl⟩ : ∃ wo : World, wo = wr := ⟨_, rfl⟩
      go_wp2_with fail
      go_loopw [9, 11, 12, 13] (fun u a _ _ wr => ∃ i : Nat, i ≤ ps.length ∧ a = .int .i64 i ∧ wr.ownsRow w1.heap.size 3 1 u (stTo ps h most t i).length (encI (stTo ps h most t i)) ∧ Gr w1 wr) (fun _ a _ _ _ => ps.length - (intOf a).toNat)
      case atStart => exact ⟨0, Nat.zero_le _, rfl, by rw [Hst.out]; exact Hown.out, Hg.out⟩
      case round =>
        obtain ⟨i, hi9, rfl, hown2, hg2⟩ := hrel
        have Hown2 := Lib.hid hown2; have Hg2 := Lib.hid hg2
        obtain ⟨ub, uc2, hu⟩ := own_slice hown2
        subst hu
        have hgz := hg2.size
        have hol := Hlen.out t i ht2
        clear hg2
        by_cases hlt : i < ps.length
        · obtain ⟨b, o, rfl, hc⟩ := Hcells.out (by omega)
          have c0 := keepc Hg2.out (hc _ _ (encPs_get ps i hlt).1)
          have c1' := keepc Hg2.out (hc _ _ (encPs_get ps i hlt).2)
          rw [← Nat.add_assoc] at c1'
          have g2 : (i : Int) < ps.length := by omega
          have g3 : (0 : Int) ≤ i := by omega
          have hin := fun n => in_calls _ (stTo ps h most t i) n wr (rdRow_of_own hown2) (by omega)
          have Hin := Lib.hid hin
          have hyes := fun hc => stTo_yes (ps := ps) (h := h) (most := most) (t := t) (i := i) hlt hc
          have hno := fun hc => stTo_no (ps := ps) (h := h) (most := most) (t := t) (i := i) hlt hc
          have hown2 := Hown2.out
          clear hc hin Hown2
          generalize ps[i] = y at *
          obtain ⟨O, hO⟩ : ∃ O, stTo ps h most t i = O := ⟨_, rfl⟩
          have hin := Hin.out
          rw [hO] at hyes hno hown2 hin hol
          have Hyes := Lib.hid hyes; have Hno := Lib.hid hno; have Hown2 := Lib.hid hown2
          replace Hin := Lib.hid hin
          rw [hO]
          clear hO hyes hno hown2 hin
          have hcs : (h ≤ y.1 ∧ ¬ y.1 < h) ∨ (¬ h ≤ y.1 ∧ y.1 < h) := by omega
          have ht3 : t = 0 ∨ t = 1 := by omega
          have hres : (stC h t y = false ∨ (y.2 ∈ O) ∨ most ≤ O.length → stTo ps h most t (i + 1) = O) ∧ (stC h t y = true → ¬ (y.2 ∈ O) → ¬ most ≤ O.length → stTo ps h most t (i + 1) = O ++ [y.2]) := by
            constructor
            · intro hx
              by_cases hc : stC h t y = true
              · rw [Hyes.out hc]; unfold prefStep; rw [if_pos]
                rcases hx with hx | hx | hx
                · rw [hx] at hc; cases hc
                · exact .inr hx
                · exact .inl hx
              · exact Hno.out (by simpa using hc)
            · intro hc h1 h2
              rw [Hyes.out hc]; unfold prefStep; rw [if_neg]; intro hx; rcases hx with hx | hx
              · exact h2 hx
              · exact h1 hx
          have Hres := Lib.hid hres
          clear hres Hyes Hno
          have hmem : decide (y.2 ∈ O) = true ∧ y.2 ∈ O ∨ decide (y.2 ∈ O) = false ∧ ¬ y.2 ∈ O := by by_cases hm : y.2 ∈ O <;> simp [hm]
          have hmo : (O.length : Int) < most ∧ ¬ most ≤ O.length ∨ ¬ (O.length : Int) < most ∧ most ≤ O.length := by omega
          have hol2 : O.length ≤ 256 := by omega
          rcases ht3 with h3 | h3
          · have ht0 : ((t : Int) == 0) = true := by simp [h3]
            have H3 := Lib.hid h3
            clear h3
            rcases hcs with ⟨h1, h2⟩ | ⟨h1, h2⟩
            · have hC : stC h t y = true := by rw [H3.out]; simp [stC, h2]
              rcases hmem with ⟨m1, m2⟩ | ⟨m1, m2⟩
              · have Hn := Lib.hid (Hres.out.1 (.inr (.inl m2)))
                clear hC hmo Hres m2
                go_wp2_with fail
                refine (Hin.out _).mono ?_
                rintro e w3 ⟨rfl, rfl⟩
                rw [m1]
                go_wp2_with fail
                go_roundw
                case rel => exact ⟨i + 1, by omega, by go_num, by rw [Hn.out]; exact Hown2.out, Hg2.out⟩
                case measure => simp [intOf]; omega
              · rcases hmo with ⟨n1, n2⟩ | ⟨n1, n2⟩
                · have Hn := Lib.hid (Hres.out.2 hC m2 n2)
                  clear hC Hres m2
                  go_wp2_with fail
                  refine (Hin.out _).mono ?_
                  rintro e w3 ⟨rfl, rfl⟩
                  rw [m1]
                  go_wp2_with (at_builtin; refine wpList_append_own _ rfl _ _ 27 rfl w1.heap.size 3 i0 _ 1 8 Try.underlying27 hi hz0 hz1 hz2 rfl (by decide) _ _ _ rfl (Hown2.out.alloc _) ⟨wr.heap.size, 0, none⟩ 1 1 [.int .i64 y.2] rfl rfl (World.news_of_block (heap_alloc_new wr _)) (by intro u hu; simp only [List.mem_cons, List.not_mem_nil, or_false] at hu; subst hu; rfl) (by unfold maxLen; omega) (by omega) (by simp; omega) ?_; intro v3 w4 hown3 hgrow3 _)
                  go_roundw
                  case rel => exact ⟨i + 1, by omega, by go_num, by rw [Hn.out]; exact own_cast hown3 (by simp) (by rw [encI_snoc]), gr_gb (Gr.al Hg2.out _) hgrow3 (fun j hj => (Hown2.out.lt j hj).1)⟩
                  case measure => simp [intOf]; omega
                · have Hn := Lib.hid (Hres.out.1 (.inr (.inr n2)))
                  clear hC Hres m2
                  go_wp2_with fail
                  refine (Hin.out _).mono ?_
                  rintro e w3 ⟨rfl, rfl⟩
                  rw [m1]
                  go_wp2_with fail
                  go_roundw
                  case rel => exact ⟨i + 1, by omega, by go_num, by rw [Hn.out]; exact Hown2.out, Hg2.out⟩
                  case measure => simp [intOf]; omega
            · have hC : stC h t y = false := by rw [H3.out]; simp [stC, h2]
              have Hn := Lib.hid (Hres.out.1 (.inl hC))
              clear hC hmem hmo Hres
              go_wp2_with fail
              refine (Hin.out _).mono ?_
              rintro e w3 ⟨rfl, rfl⟩
              go_wp2_with fail
              go_roundw
              case rel => exact ⟨i + 1, by omega, by go_num, by rw [Hn.out]; exact Hown2.out, Hg2.out⟩
              case measure => simp [intOf]; omega
          · have ht0 : ((t : Int) == 0) = false := by simp [h3]
            have H3 := Lib.hid h3
            clear h3
            rcases hcs with ⟨h1, h2⟩ | ⟨h1, h2⟩
            · have hC : stC h t y = false := by rw [H3.out]; simp [stC, h2]
              have Hn := Lib.hid (Hres.out.1 (.inl hC))
              clear hC hmem hmo Hres
              go_wp2_with fail
              refine (Hin.out _).mono ?_
              rintro e w3 ⟨rfl, rfl⟩
              go_wp2_with fail
              go_roundw
              case rel => exact ⟨i + 1, by omega, by go_num, by rw [Hn.out]; exact Hown2.out, Hg2.out⟩
              case measure => simp [intOf]; omega
            · have hC : stC h t y = true := by rw [H3.out]; simp [stC, h2]
              rcases hmem with ⟨m1, m2⟩ | ⟨m1, m2⟩
              · have Hn := Lib.hid (Hres.out.1 (.inr (.inl m2)))
                clear hC hmo Hres m2
                go_wp2_with fail
                refine (Hin.out _).mono ?_
                rintro e w3 ⟨rfl, rfl⟩
                rw [m1]
                go_wp2_with fail
                go_roundw
                case rel => exact ⟨i + 1, by omega, by go_num, by rw [Hn.out]; exact Hown2.out, Hg2.out⟩
                case measure => simp [intOf]; omega
              · rcases hmo with ⟨n1, n2⟩ | ⟨n1, n2⟩
                · have Hn := Lib.hid (Hres.out.2 hC m2 n2)
                  clear hC Hres m2
                  go_wp2_with fail
                  refine (Hin.out _).mono ?_
                  rintro e w3 ⟨rfl, rfl⟩
                  rw [m1]
                  go_wp2_with (at_builtin; refine wpList_append_own _ rfl _ _ 27 rfl w1.heap.size 3 i0 _ 1 8 Try.underlying27 hi hz0 hz1 hz2 rfl (by decide) _ _ _ rfl (Hown2.out.alloc _) ⟨wr.heap.size, 0, none⟩ 1 1 [.int .i64 y.2] rfl rfl (World.news_of_block (heap_alloc_new wr _)) (by intro u hu; simp only [List.mem_cons, List.not_mem_nil, or_false] at hu; subst hu; rfl) (by unfold maxLen; omega) (by omega) (by simp; omega) ?_; intro v3 w4 hown3 hgrow3 _)
                  go_roundw
                  case rel => exact ⟨i + 1, by omega, by go_num, by rw [Hn.out]; exact own_cast hown3 (by simp) (by rw [encI_snoc]), gr_gb (Gr.al Hg2.out _) hgrow3 (fun j hj => (Hown2.out.lt j hj).1)⟩
                  case measure => simp [intOf]; omega
                · have Hn := Lib.hid (Hres.out.1 (.inr (.inr n2)))
                  clear hC Hres m2
                  go_wp2_with fail
                  refine (Hin.out _).mono ?_
                  rintro e w3 ⟨rfl, rfl⟩
                  rw [m1]
                  go_wp2_with fail
                  go_roundw
                  case rel => exact ⟨i + 1, by omega, by go_num, by rw [Hn.out]; exact Hown2.out, Hg2.out⟩
                  case measure => simp [intOf]; omega
        · obtain rfl : i = ps.length := by omega
          clear hown2
          go_wp2_with fail
          go_roundw
          case rel => exact ⟨t + 1, by omega, by go_num, by rw [← Hall.out t]; exact Hown2.out, Hg2.out⟩
          case measure => simp [intOf]; omega
    · obtain rfl : t = 2 := by omega
      go_wp2_with fail
      go_ret
      exact ⟨_, rfl, own_mono Hown.out hb9, Hb.out.tr Hg.out⟩
end Go.Proofs.Ytomhdkppgfcaaaa

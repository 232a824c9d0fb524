/- The ring: At, Holds. -/
import Derived.Test.YtomhdkppgfcaaaaRgJ
namespace Go.Proofs.Ytomhdkppgfcaaaa
open Go.RowKit

def atP (ps : List Pt) (i : Int) : Pt := if 0 ≤ i then ps.getD i.toNat (0, -1) else (0, -1)
set_option maxRecDepth 100000 in
set_option maxHeartbeats 1000000 in
theorem at_calls (p : Nat) (ep : Int) (ns : List Int) (ps : List Pt) (i : Int) (w : World) (hr : RD w p ep ns ps) (hk : ps.length ≤ 1000) :
    Calls Try.prog 17 #[.pointer (some ⟨p, 0, none⟩), .int .i64 i] w fun e w' => e = .returned (.tuple #[.int .u64 (atP ps i).1, .int .i64 (atP ps i).2]) ∧ Gr w w' := by
  obtain ⟨vn, vp, p0, p1, p2, _, hrd⟩ := hr
  obtain ⟨_, va, vcap, rfl, hcap, hcells⟩ := hrd
  by_cases hneg : i < 0
  · have e : atP ps i = (0, -1) := by unfold atP; rw [if_neg (by omega)]
    rw [e]
    clear hcells
    go_enter Try.func17, Try.ntmps17
    go_wp2_with fail
    go_ret2
    exact ⟨rfl, by (repeat (first | exact Gr.rfl' | refine Gr.al ?_ _ | refine Gr.dr ?_ | refine Gr.drN ?_ | refine Gr.sc ?_ (by simp <;> omega) _ | refine Gr.tr ?_ (by assumption)))⟩
  obtain ⟨j, rfl⟩ := Int.eq_ofNat_of_zero_le (Int.not_lt.1 hneg)
  by_cases hj : j < ps.length
  · have e : atP ps j = ps[j] := by unfold atP; rw [if_pos (by omega)]; simp [List.getD, hj]
    rw [e]
    obtain ⟨b, o, rfl, hc⟩ := hcells (by omega)
    have c0 := hc _ _ (encPs_get ps j hj).1
    have c1 := hc _ _ (encPs_get ps j hj).2
    rw [← Nat.add_assoc] at c1
    have g1 : (0 : Int) ≤ (j : Int) := by omega
    have g2 : (j : Int) < (ps.length : Int) := by omega
    clear hc hcells e hneg
    generalize ps[j] = x at *
    go_enter Try.func17, Try.ntmps17
    go_wp2_with fail
    go_quiet (fail)
    go_wp2_with fail
    go_ret2
    exact ⟨rfl, by (repeat (first | exact Gr.rfl' | refine Gr.al ?_ _ | refine Gr.dr ?_ | refine Gr.drN ?_ | refine Gr.sc ?_ (by simp <;> omega) _ | refine Gr.tr ?_ (by assumption)))⟩
  · have e : atP ps j = (0, -1) := by unfold atP; rw [if_pos (by omega)]; simp [List.getD, List.getElem?_eq_none (Nat.not_lt.1 hj)]
    rw [e]
    have g2 : ¬ (j : Int) < (ps.length : Int) := by omega
    have g3 : (ps.length : Int) ≤ (j : Int) := by omega
    clear hcells
    go_enter Try.func17, Try.ntmps17
    go_wp2_with fail
    go_ret2
    exact ⟨rfl, by (repeat (first | exact Gr.rfl' | refine Gr.al ?_ _ | refine Gr.dr ?_ | refine Gr.drN ?_ | refine Gr.sc ?_ (by simp <;> omega) _ | refine Gr.tr ?_ (by assumption)))⟩
set_option maxHeartbeats 1000000 in
theorem holds_calls (p : Nat) (ep : Int) (ns : List Int) (ps : List Pt) (key : ByteArray) (most node : Int) (w : World) (hr : RD w p ep ns ps) (hk : ps.length ≤ 128) (hs : ps.Pairwise leP) (hkey : key.size ≤ 1000000) :
    Calls Try.prog 24 #[.pointer (some ⟨p, 0, none⟩), .string key, .int .i64 most, .int .i64 node] w fun e w' => e = .returned (.bool (decide (node ∈ prefer ps (hashS key) most))) ∧ Gr w w' := by
  have hp := prefer_calls p ep ns ps key most w hr hk hs hkey
  have hl : (prefer ps (hashS key) most).length ≤ 1000000 := by have := prefTo_len ps (hashS key) most ps.length (Nat.le_refl _); unfold prefer; omega
  generalize prefer ps (hashS key) most = PP at *
  clear hr hs
  go_enter Try.func24, Try.ntmps24
  go_wp2_with fail
  refine hp.mono ?_
  rintro e w1 ⟨v1, rfl, hown, hb⟩
  clear hp
  go_wp2_with fail
  refine (contains_calls _ PP _ _ (rdRow_of_own hown) hl).mono ?_
  rintro e w2 ⟨rfl, rfl⟩
  clear hown
  go_wp2_with fail
  go_ret
  exact ⟨rfl, hb⟩
theorem moved1_calls (n : Int) (B : Nat) (v : Value) (had : List Int) (w : World) (hB : w.cell? ⟨B, 0, none⟩ = some v) (hv : rdRow w 1 v had.length (encI had)) (hk : had.length ≤ 1000000) :
    Calls Try.prog 35 #[.int .i64 n, .pointer (some ⟨B, 0, none⟩)] w fun e w' => e = .returned (.bool (decide (n ∈ had))) ∧ w = w' := by
  have hc := contains_calls v had n w hv hk
  obtain ⟨_, va, vc, rfl, _, _⟩ := hv
  go_enter Try.func35, Try.ntmps35
  go_wp2_with fail
  refine hc.mono ?_
  rintro e w1 ⟨rfl, rfl⟩
  go_wp2_with fail
  go_ret
  exact ⟨rfl, rfl⟩
set_option maxHeartbeats 1000000 in
theorem indexf_calls (v vh : Value) (l had : List Int) (B : Nat) (w : World) (hv : rdRow w 1 v l.length (encI l)) (hk : l.length ≤ 1000000) (hB : w.cell? ⟨B, 0, none⟩ = some vh) (hh : rdRow w 1 vh had.length (encI had)) (hhk : had.length ≤ 1000000) :
    Calls Try.prog 41 #[v, .func (.func 35) #[] #[.pointer (some ⟨B, 0, none⟩)]] w fun e w' => ((e = .returned (.int .i64 (-1)) ∧ ∀ x ∈ l, x ∉ had) ∨ ∃ k : Nat, e = .returned (.int .i64 k) ∧ ∃ hk : k < l.length, (∀ x ∈ l.take k, x ∉ had) ∧ l[k] ∈ had) ∧ w = w' := by
  obtain ⟨a, cap, rfl, hcap, hrd⟩ := rd_at hv
  have hm := fun n => moved1_calls n B vh had w hB hh hhk
  have Hm := Lib.hid hm; have Hrd := Lib.hid hrd
  clear hm hrd hv hh hB
  obtain ⟨R, hR⟩ : ∃ R : Ending → World → Prop, R = fun e w' => ((e = .returned (.int .i64 (-1)) ∧ ∀ x ∈ l, x ∉ had) ∨ ∃ k : Nat, e = .returned (.int .i64 k) ∧ ∃ hk : k < l.length, (∀ x ∈ l.take k, x ∉ had) ∧ l[k] ∈ had) ∧ w = w' := ⟨_, rfl⟩
  have HR := Lib.hid hR
  rw [← hR]
  clear hR
  go_enter Try.func41, Try.ntmps41
  go_wp2_with fail
  go_loopw [8] (fun i wr => ∃ k : Nat, k ≤ l.length ∧ i = .int .i64 k ∧ (∀ x ∈ l.take k, x ∉ had) ∧ w = wr) (fun i _ => l.length - (intOf i).toNat)
  case atStart => exact ⟨0, Nat.zero_le _, rfl, by simp, rfl⟩
  case round =>
    obtain ⟨k, hk1, rfl, hnot, rfl⟩ := hrel
    have Hn := Lib.hid hnot
    clear hnot
    by_cases hlt : k < l.length
    · obtain ⟨b, o, rfl, hc⟩ := Hrd.out (by omega)
      have c0 := hc k hlt
      have h1 : (k : Int) < l.length := by omega
      have Ht := Lib.hid (List.take_succ_eq_append_getElem hlt)
      have Hk := Lib.hid (show l[k] ∈ had → ∃ hk : k < l.length, (∀ x ∈ l.take k, x ∉ had) ∧ l[k] ∈ had from fun h => ⟨hlt, Hn.out, h⟩)
      clear hc
      generalize l[k] = x at c0 Ht Hk
      go_wp2_with fail
      refine (Hm.out x).mono ?_
      rintro e w2 ⟨rfl, rfl⟩
      by_cases hmem : x ∈ had
      · have hd : decide (x ∈ had) = true := decide_eq_true hmem
        have He := Lib.hid (Hk.out hmem)
        rw [hd]
        clear hmem hd
        go_wp2_with fail
        rw [HR.out]
        exact ⟨.inr ⟨k, rfl, He.out⟩, rfl⟩
      · have hd : decide (x ∈ had) = false := decide_eq_false hmem
        have He := Lib.hid hmem
        rw [hd]
        clear hmem hd
        go_wp2_with fail
        go_roundw
        case rel => exact ⟨k + 1, by omega, by go_num, by
          rw [Ht.out]; intro y hy
          rcases List.mem_append.1 hy with h | h
          · exact Hn.out y h
          · rw [List.mem_singleton.1 h]; exact He.out, trivial⟩
        case measure => simp [intOf]; omega
    · obtain rfl : k = l.length := by omega
      go_wp2_with fail
      rw [HR.out]
      exact ⟨.inl ⟨rfl, by have := Hn.out; rwa [List.take_length] at this⟩, rfl⟩
end Go.Proofs.Ytomhdkppgfcaaaa

/- Package files: ready. -/
import Derived.Test.YtdopmcepfacdlaaFdA
namespace Go.Proofs.Ytdopmcepfacdlaa
open Go.RowKit Go.Maps

abbrev encT (l : List ByteArray) : List Value := l.map fun s => .string s
theorem rdS_at {w : World} {v : Value} {l : List ByteArray} (h : rdRow w 1 v l.length (encT l)) : ∃ a cap, v = .slice a l.length cap ∧ l.length ≤ cap ∧ (0 < l.length → ∃ b o, a = some ⟨b, o, none⟩ ∧ ∀ j (hj : j < l.length), w.cell? ⟨b, o + j, none⟩ = some (.string l[j])) := by
  obtain ⟨_, a, cap, hv, hc, h2⟩ := h
  refine ⟨a, cap, hv, hc, fun hn => ?_⟩
  obtain ⟨b, o, ha, h3⟩ := h2 hn
  exact ⟨b, o, ha, fun j hj => h3 j _ (by simp [encT, hj])⟩
def bad (l : List ByteArray) : Bool := l.any fun s => !decide (NameOk s)
set_option maxHeartbeats 1000000 in
theorem indexs_calls (v : Value) (l : List ByteArray) (w : World) (hv : rdRow w 1 v l.length (encT l)) (hk : l.length ≤ 1000000) (hm : ∀ s ∈ l, s.size ≤ maxLen) :
    Calls Try.prog 68 #[v, .func (.func 62) #[] #[]] w fun e w' => (∃ i : Int, e = .returned (.int .i64 i) ∧ -1 ≤ i ∧ (decide (0 ≤ i)) = bad l) ∧ w = w' := by
  obtain ⟨a, cap, rfl, hcap, hrd⟩ := rdS_at hv
  have Hm := Lib.hid (fun s (hs : s ∈ l) => rdy_fn s w (hm s hs)); have Hrd := Lib.hid hrd
  clear hrd hv hm
  obtain ⟨R, hR⟩ : ∃ R : Ending → World → Prop, R = fun e w' => (∃ i : Int, e = .returned (.int .i64 i) ∧ -1 ≤ i ∧ (decide (0 ≤ i)) = bad l) ∧ w = w' := ⟨_, rfl⟩
  have HR := Lib.hid hR
  rw [← hR]
  clear hR
  go_enter Try.func68, Try.ntmps68
  go_wp2_with fail
  go_loopw [8] (fun i wr => ∃ k : Nat, k ≤ l.length ∧ i = .int .i64 k ∧ Hid (bad (l.take k) = false) ∧ w = wr) (fun i _ => l.length - (intOf i).toNat)
  case atStart => exact ⟨0, Nat.zero_le _, rfl, Lib.hid (by simp [bad]), rfl⟩
  case round =>
    obtain ⟨k, hk1, rfl, Hn, rfl⟩ := hrel
    by_cases hlt : k < l.length
    · obtain ⟨b, o, rfl, hc⟩ := Hrd.out (by omega)
      have c0 := hc k hlt
      have h1 : (k : Int) < l.length := by omega
      have h0 : (0 : Int) ≤ (k : Int) := by omega
      have Hmx := Lib.hid (Hm.out _ (List.getElem_mem hlt))
      have Ht := Lib.hid (show bad (l.take (k + 1)) = !decide (NameOk l[k]) by
        have e : bad (l.take k) = false := Hn.out
        unfold bad at e ⊢
        rw [List.take_succ_eq_append_getElem hlt, List.any_append, e]; simp)
      have Hb := Lib.hid (show ¬ NameOk l[k] → bad l = true from fun h => by unfold bad; rw [List.any_eq_true]; exact ⟨_, List.getElem_mem hlt, by rw [decide_eq_false h]; rfl⟩)
      clear hc
      generalize l[k] = x at c0 Ht Hb Hmx
      go_wp2_with fail
      refine Hmx.out.mono ?_
      rintro e w2 ⟨rfl, rfl⟩
      by_cases hmem : NameOk x
      · rw [decide_eq_true hmem]
        have Ht2 := Lib.hid (show bad (l.take (k + 1)) = false by rw [Ht.out, decide_eq_true hmem]; rfl)
        clear hmem
        go_wp2_with fail
        go_roundw
        case rel => exact ⟨k + 1, by omega, by go_num, Ht2, trivial⟩
        case measure => simp [intOf]; omega
      · rw [decide_eq_false hmem]
        have He := Lib.hid (Hb.out hmem)
        clear hmem
        go_wp2_with fail
        rw [HR.out]
        exact ⟨⟨k, rfl, by omega, by rw [He.out]; exact decide_eq_true h0⟩, rfl⟩
    · obtain rfl : k = l.length := by omega
      have He := Lib.hid (show bad l = false by have := Hn.out; rwa [List.take_length] at this)
      go_wp2_with fail
      rw [HR.out]
      exact ⟨⟨-1, rfl, by omega, by rw [He.out]; rfl⟩, rfl⟩
theorem containsf_calls (v : Value) (l : List ByteArray) (w : World) (hv : rdRow w 1 v l.length (encT l)) (hk : l.length ≤ 1000000) (hm : ∀ s ∈ l, s.size ≤ maxLen) :
    Calls Try.prog 61 #[v, .func (.func 62) #[] #[]] w fun e w' => e = .returned (.bool (bad l)) ∧ w = w' := by
  have H := Lib.hid (indexs_calls v l w hv hk hm)
  obtain ⟨a, cap, rfl, _, _⟩ := rdS_at hv
  clear hv hm
  go_enter Try.func61, Try.ntmps61
  go_wp2_with fail
  refine H.out.mono ?_
  rintro e w' ⟨⟨i, rfl, hi, hb⟩, rfl⟩
  have Hb := Lib.hid hb
  clear hb
  go_wp2_with fail
  go_ret
  exact ⟨ret_b rfl Hb.out, rfl⟩
/-- What ready tells. -/
def rdyE (on : Bool) (l : List ByteArray) : Int := if on = false then 14 else if bad l = true then 1 else 0
set_option maxHeartbeats 1000000 in
theorem ready_calls (p : Nat) (on : Bool) (v : Value) (l : List ByteArray) (w : World) (hc : w.cell? ⟨p, 4, none⟩ = some (.bool on)) (hv : rdRow w 1 v l.length (encT l)) (hk : l.length ≤ 1000000) (hm : ∀ s ∈ l, s.size ≤ maxLen) :
    Calls Try.prog 40 #[.pointer (some ⟨p, 0, none⟩), v] w fun e w' => e = .returned (.int .i64 (rdyE on l)) ∧ w = w' := by
  have H := Lib.hid (containsf_calls v l w hv hk hm)
  obtain ⟨a, cap, rfl, _, _⟩ := rdS_at hv
  clear hv hm
  unfold rdyE
  cases on
  · go_enter Try.func40, Try.ntmps40
    go_wp2_with fail
    go_ret
    exact ⟨rfl, rfl⟩
  · obtain ⟨x, hx⟩ : ∃ x, bad l = x := ⟨_, rfl⟩
    rw [hx] at H ⊢
    clear hx
    cases x
    all_goals
      go_enter Try.func40, Try.ntmps40
      go_wp2_with fail
      refine H.out.mono ?_
      rintro e w' ⟨rfl, rfl⟩
      go_wp2_with fail
      go_ret
      exact ⟨rfl, rfl⟩
theorem ready_nil (v : Value) (w : World) : Calls Try.prog 40 #[.pointer none, v] w fun e w' => e = .returned (.int .i64 1) ∧ w = w' := by
  go_enter Try.func40, Try.ntmps40
  go_wp2_with fail
  go_ret
  exact ⟨rfl, rfl⟩
end Go.Proofs.Ytdopmcepfacdlaa

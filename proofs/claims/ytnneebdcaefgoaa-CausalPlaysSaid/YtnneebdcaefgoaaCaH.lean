/- Package sample: times, names. -/
import Derived.Test.YtnneebdcaefgoaaCaG
namespace Go.Proofs.Ytnneebdcaefgoaa
open Go.RowKit

theorem clock_calls (n : Int) (w : World) : Calls Try.prog 50 #[.int .i64 n] w fun e w' => e = .returned (.bool (decide (0 ≤ n ∧ n ≤ topN))) ∧ w = w' := by
  have hcs : (¬ 0 ≤ n ∧ decide (0 ≤ n ∧ n ≤ topN) = false) ∨ (0 ≤ n ∧ ¬ n ≤ 1099511627776 ∧ decide (0 ≤ n ∧ n ≤ topN) = false) ∨ (0 ≤ n ∧ n ≤ 1099511627776 ∧ decide (0 ≤ n ∧ n ≤ topN) = true) := by
    unfold topN; by_cases h1 : 0 ≤ n <;> by_cases h2 : n ≤ 1099511627776 <;> simp [h1, h2]
  rcases hcs with ⟨h1, hr⟩ | ⟨h1, h2, hr⟩ | ⟨h1, h2, hr⟩
  all_goals
    rw [hr]
    clear hr
    go_enter Try.func50, Try.ntmps50
    go_wp2_with fail
    go_ret
    exact ⟨rfl, rfl⟩
theorem rtime_calls (n : Int) (w : World) : Calls Try.prog 58 #[.int .i64 n] w fun e w' => e = .returned (.bool (decide (0 ≤ n ∧ n ≤ topN))) ∧ w = w' := by
  have hcs : (¬ 0 ≤ n ∧ decide (0 ≤ n ∧ n ≤ topN) = false) ∨ (0 ≤ n ∧ ¬ n ≤ 1099511627776 ∧ decide (0 ≤ n ∧ n ≤ topN) = false) ∨ (0 ≤ n ∧ n ≤ 1099511627776 ∧ decide (0 ≤ n ∧ n ≤ topN) = true) := by
    unfold topN; by_cases h1 : 0 ≤ n <;> by_cases h2 : n ≤ 1099511627776 <;> simp [h1, h2]
  rcases hcs with ⟨h1, hr⟩ | ⟨h1, h2, hr⟩ | ⟨h1, h2, hr⟩
  all_goals
    rw [hr]
    clear hr
    go_enter Try.func58, Try.ntmps58
    go_wp2_with fail
    go_ret
    exact ⟨rfl, rfl⟩
def chr (s : ByteArray) (i : Nat) : Int := ((s.data.toList.getD i 0).toNat : Int)
theorem chr_get {s : ByteArray} {i : Nat} (h : i < s.size) : ((s[i]).toNat : Int) = chr s i := by
  have h' : i < s.data.toList.length := by simpa using h
  unfold chr
  rw [List.getD, List.getElem?_eq_getElem h']
  rfl
def okc (x : Int) : Prop := (97 ≤ x ∧ x ≤ 122) ∨ (48 ≤ x ∧ x ≤ 57) ∨ x = 95 ∨ x = 46
def NameOk (s : ByteArray) : Prop := 1 ≤ s.size ∧ s.size ≤ 40 ∧ 97 ≤ chr s 0 ∧ chr s 0 ≤ 122 ∧ ∀ i, i < s.size → okc (chr s i)
instance (x : Int) : Decidable (okc x) := by unfold okc; exact inferInstance
instance (s : ByteArray) : Decidable (NameOk s) := by unfold NameOk; exact inferInstance
theorem name_ne {s : ByteArray} (hz : ¬ s.size = 0) : s.toList.isEmpty = false := by
  rw [ByteArray.toList_eq]
  cases hl : s.data.toList with
  | nil => exact absurd (by have := congrArg List.length hl; simpa using this) hz
  | cons _ _ => rfl
theorem okc_cases (x : Int) : (¬ x < 97 ∧ 97 ≤ x ∧ ¬ 122 < x ∧ x ≤ 122 ∧ okc x) ∨ (x < 97 ∧ ¬ 97 ≤ x ∧ ¬ x < 48 ∧ 48 ≤ x ∧ ¬ 57 < x ∧ x ≤ 57 ∧ okc x) ∨ (x = 95 ∧ okc x) ∨ (x = 46 ∧ okc x) ∨ (x < 97 ∧ ¬ 97 ≤ x ∧ x < 48 ∧ ¬ 48 ≤ x ∧ (x == 95) = false ∧ (x == 46) = false ∧ (x != 95) = true ∧ (x != 46) = true ∧ ¬ okc x) ∨ (x < 97 ∧ ¬ 97 ≤ x ∧ ¬ x < 48 ∧ 48 ≤ x ∧ 57 < x ∧ ¬ x ≤ 57 ∧ (x == 95) = false ∧ (x == 46) = false ∧ (x != 95) = true ∧ (x != 46) = true ∧ ¬ okc x) ∨ (¬ x < 97 ∧ 97 ≤ x ∧ 122 < x ∧ ¬ x ≤ 122 ∧ ¬ x < 48 ∧ 48 ≤ x ∧ 57 < x ∧ ¬ x ≤ 57 ∧ (x == 95) = false ∧ (x == 46) = false ∧ (x != 95) = true ∧ (x != 46) = true ∧ ¬ okc x) := by
  unfold okc
  by_cases h1 : x = 95
  · subst h1; simp
  · by_cases h2 : x = 46
    · subst h2; simp
    · have e1 : (x == 95) = false := by simp [h1]
      have e2 : (x == 46) = false := by simp [h2]
      simp [e1, e2, bne]
      omega
set_option maxHeartbeats 4000000 in
theorem name_calls (s : ByteArray) (w : World) : Calls Try.prog 53 #[.string s] w fun e w' => e = .returned (.bool (decide (NameOk s))) ∧ w = w' := by
  by_cases hz : s.size = 0
  · have hr : decide (NameOk s) = false := decide_eq_false (by unfold NameOk; omega)
    have hs : s = ⟨#[]⟩ := by
      obtain ⟨⟨l⟩⟩ := s
      have : l = [] := List.length_eq_zero_iff.1 hz
      subst this; rfl
    rw [hr]
    subst hs
    clear hr hz
    go_enter Try.func53, Try.ntmps53
    go_wp2_with fail
    go_ret
    exact ⟨rfl, rfl⟩
  have hpos : 0 < s.size := by omega
  have hne := name_ne hz
  have e0 := chr_get hpos
  have Hn := Lib.hid (show NameOk s ↔ 1 ≤ s.size ∧ s.size ≤ 40 ∧ 97 ≤ chr s 0 ∧ chr s 0 ≤ 122 ∧ ∀ i, i < s.size → okc (chr s i) from Iff.rfl)
  obtain ⟨c0, hc0⟩ : ∃ c, chr s 0 = c := ⟨_, rfl⟩
  rw [hc0] at e0 Hn
  clear hc0
  have hs1 : ¬ ((s.size : Int) < 1) := by omega
  by_cases h40 : 40 < s.size
  · have hr : decide (NameOk s) = false := decide_eq_false (by rw [Hn.out]; omega)
    have g1 : (40 : Int) < s.size := by omega
    rw [hr]
    clear hr e0
    go_enter Try.func53, Try.ntmps53
    go_wp2_with fail
    go_ret
    exact ⟨rfl, rfl⟩
  have g1 : ¬ ((40 : Int) < s.size) := by omega
  by_cases h97 : c0 < 97
  · have hr : decide (NameOk s) = false := decide_eq_false (by rw [Hn.out]; omega)
    rw [hr]
    clear hr
    go_enter Try.func53, Try.ntmps53
    go_wp2_with fail
    go_ret
    exact ⟨rfl, rfl⟩
  by_cases h122 : 122 < c0
  · have hr : decide (NameOk s) = false := decide_eq_false (by rw [Hn.out]; omega)
    rw [hr]
    clear hr
    go_enter Try.func53, Try.ntmps53
    go_wp2_with fail
    go_ret
    exact ⟨rfl, rfl⟩
  have Hn2 := Lib.hid (show NameOk s ↔ ∀ i, i < s.size → okc (chr s i) by
    rw [Hn.out]; exact ⟨fun h => h.2.2.2.2, fun h => ⟨by omega, by omega, by omega, by omega, h⟩⟩)
  obtain ⟨r, hr⟩ : ∃ r, decide (NameOk s) = r := ⟨_, rfl⟩
  rw [hr]
  have Hr := Lib.hid hr
  clear hr
  go_enter Try.func53, Try.ntmps53
  go_wp2_with fail
  clear e0 h97 h122 hne
  go_loopw [3, 4, 24] (fun _ _ i wr => ∃ k : Nat, k ≤ s.size ∧ i = .int .i64 k ∧ (∀ j, j < k → okc (chr s j)) ∧ w = wr) (fun _ _ i _ => s.size - (intOf i).toNat)
  case atStart => exact ⟨0, Nat.zero_le _, rfl, fun j hj => by omega, rfl⟩
  case round =>
    obtain ⟨k, hk, rfl, hok, rfl⟩ := hrel
    have Hok := Lib.hid hok
    clear hok
    by_cases hlt : k < s.size
    · have g2 : (k : Int) < s.size := by omega
      have g3 : (0 : Int) ≤ k := by omega
      have ek := chr_get hlt
      have hcs := okc_cases (chr s k)
      have Hc := Lib.hid (show ∀ x, chr s k = x → (okc x → ∀ j, j < k + 1 → okc (chr s j)) ∧ (¬ okc x → ¬ NameOk s) from fun x e => ⟨fun h j hj => by
        by_cases ej : j = k
        · subst ej; rw [e]; exact h
        · exact Hok.out j (by omega), fun h hn => by
          have := Hn2.out.1 hn k hlt
          rw [e] at this; exact h this⟩)
      obtain ⟨x, hx⟩ : ∃ c, chr s k = c := ⟨_, rfl⟩
      replace Hc := Lib.hid (Hc.out x hx)
      rw [hx] at ek hcs
      clear hx
      rcases hcs with ⟨k1, k2, k3, k4, ho⟩ | ⟨k1, k2, k3, k4, k5, k6, ho⟩ | ⟨rfl, ho⟩ | ⟨rfl, ho⟩ | ⟨k1, k2, k3, k4, k5, k6, k7, k8, ho⟩ | ⟨k1, k2, k3, k4, k5, k6, k7, k8, k9, kk, ho⟩ | ⟨k1, k2, k3, k4, k9, kk, kl, km, k5, k6, k7, k8, ho⟩
      all_goals
        have Ho := Lib.hid ho
        clear ho
        go_wp2_with fail
        first
          | (go_roundw
             case rel => exact ⟨k + 1, by omega, by go_num, Hc.out.1 Ho.out, trivial⟩
             case measure => simp [intOf]; omega)
          | (go_ret
             exact ⟨ret_b rfl (by rw [← Hr.out]; exact (decide_eq_false (Hc.out.2 Ho.out)).symm), rfl⟩)
    · obtain rfl : k = s.size := by omega
      go_wp2_with fail
      go_ret
      exact ⟨ret_b rfl (by rw [← Hr.out]; exact (decide_eq_true (Hn2.out.2 Hok.out)).symm), rfl⟩
set_option maxHeartbeats 4000000 in
theorem rname_calls (s : ByteArray) (w : World) : Calls Try.prog 61 #[.string s] w fun e w' => e = .returned (.bool (decide (NameOk s))) ∧ w = w' := by
  by_cases hz : s.size = 0
  · have hr : decide (NameOk s) = false := decide_eq_false (by unfold NameOk; omega)
    have hs : s = ⟨#[]⟩ := by
      obtain ⟨⟨l⟩⟩ := s
      have : l = [] := List.length_eq_zero_iff.1 hz
      subst this; rfl
    rw [hr]
    subst hs
    clear hr hz
    go_enter Try.func61, Try.ntmps61
    go_wp2_with fail
    go_ret
    exact ⟨rfl, rfl⟩
  have hpos : 0 < s.size := by omega
  have hne := name_ne hz
  have e0 := chr_get hpos
  have Hn := Lib.hid (show NameOk s ↔ 1 ≤ s.size ∧ s.size ≤ 40 ∧ 97 ≤ chr s 0 ∧ chr s 0 ≤ 122 ∧ ∀ i, i < s.size → okc (chr s i) from Iff.rfl)
  obtain ⟨c0, hc0⟩ : ∃ c, chr s 0 = c := ⟨_, rfl⟩
  rw [hc0] at e0 Hn
  clear hc0
  have hs1 : ¬ ((s.size : Int) < 1) := by omega
  by_cases h40 : 40 < s.size
  · have hr : decide (NameOk s) = false := decide_eq_false (by rw [Hn.out]; omega)
    have g1 : (40 : Int) < s.size := by omega
    rw [hr]
    clear hr e0
    go_enter Try.func61, Try.ntmps61
    go_wp2_with fail
    go_ret
    exact ⟨rfl, rfl⟩
  have g1 : ¬ ((40 : Int) < s.size) := by omega
  by_cases h97 : c0 < 97
  · have hr : decide (NameOk s) = false := decide_eq_false (by rw [Hn.out]; omega)
    rw [hr]
    clear hr
    go_enter Try.func61, Try.ntmps61
    go_wp2_with fail
    go_ret
    exact ⟨rfl, rfl⟩
  by_cases h122 : 122 < c0
  · have hr : decide (NameOk s) = false := decide_eq_false (by rw [Hn.out]; omega)
    rw [hr]
    clear hr
    go_enter Try.func61, Try.ntmps61
    go_wp2_with fail
    go_ret
    exact ⟨rfl, rfl⟩
  have Hn2 := Lib.hid (show NameOk s ↔ ∀ i, i < s.size → okc (chr s i) by
    rw [Hn.out]; exact ⟨fun h => h.2.2.2.2, fun h => ⟨by omega, by omega, by omega, by omega, h⟩⟩)
  obtain ⟨r, hr⟩ : ∃ r, decide (NameOk s) = r := ⟨_, rfl⟩
  rw [hr]
  have Hr := Lib.hid hr
  clear hr
  go_enter Try.func61, Try.ntmps61
  go_wp2_with fail
  clear e0 h97 h122 hne
  go_loopw [3, 4] (fun i _ wr => ∃ k : Nat, k ≤ s.size ∧ i = .int .i64 k ∧ (∀ j, j < k → okc (chr s j)) ∧ w = wr) (fun i _ _ => s.size - (intOf i).toNat)
  case atStart => exact ⟨0, Nat.zero_le _, rfl, fun j hj => by omega, rfl⟩
  case round =>
    obtain ⟨k, hk, rfl, hok, rfl⟩ := hrel
    have Hok := Lib.hid hok
    clear hok
    by_cases hlt : k < s.size
    · have g2 : (k : Int) < s.size := by omega
      have g3 : (0 : Int) ≤ k := by omega
      have ek := chr_get hlt
      have hcs := okc_cases (chr s k)
      have Hc := Lib.hid (show ∀ x, chr s k = x → (okc x → ∀ j, j < k + 1 → okc (chr s j)) ∧ (¬ okc x → ¬ NameOk s) from fun x e => ⟨fun h j hj => by
        by_cases ej : j = k
        · subst ej; rw [e]; exact h
        · exact Hok.out j (by omega), fun h hn => by
          have := Hn2.out.1 hn k hlt
          rw [e] at this; exact h this⟩)
      obtain ⟨x, hx⟩ : ∃ c, chr s k = c := ⟨_, rfl⟩
      replace Hc := Lib.hid (Hc.out x hx)
      rw [hx] at ek hcs
      clear hx
      rcases hcs with ⟨k1, k2, k3, k4, ho⟩ | ⟨k1, k2, k3, k4, k5, k6, ho⟩ | ⟨rfl, ho⟩ | ⟨rfl, ho⟩ | ⟨k1, k2, k3, k4, k5, k6, k7, k8, ho⟩ | ⟨k1, k2, k3, k4, k5, k6, k7, k8, k9, kk, ho⟩ | ⟨k1, k2, k3, k4, k9, kk, kl, km, k5, k6, k7, k8, ho⟩
      all_goals
        have Ho := Lib.hid ho
        clear ho
        go_wp2_with fail
        first
          | (go_roundw
             case rel => exact ⟨k + 1, by omega, by go_num, Hc.out.1 Ho.out, trivial⟩
             case measure => simp [intOf]; omega)
          | (go_ret
             exact ⟨ret_b rfl (by rw [← Hr.out]; exact (decide_eq_false (Hc.out.2 Ho.out)).symm), rfl⟩)
    · obtain rfl : k = s.size := by omega
      go_wp2_with fail
      go_ret
      exact ⟨ret_b rfl (by rw [← Hr.out]; exact (decide_eq_true (Hn2.out.2 Hok.out)).symm), rfl⟩
end Go.Proofs.Ytnneebdcaefgoaa

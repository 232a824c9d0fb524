/- Package files: names; what is wrong ahead of all else (ready). -/
import Derived.Test.YtdopmcepfacdlaaFdN
namespace Go.Proofs.Ytdopmcepfacdlaa
open Go.RowKit Go.Maps

def chr (s : ByteArray) (i : Nat) : Int := ((s.data.toList.getD i 0).toNat : Int)
theorem chr_get {s : ByteArray} {i : Nat} (h : i < s.size) : ((s[i]).toNat : Int) = chr s i := by
  have h' : i < s.data.toList.length := by simpa using h
  unfold chr
  rw [List.getD, List.getElem?_eq_getElem h']
  rfl
def okc (x : Int) : Prop := (97 ≤ x ∧ x ≤ 122) ∨ (48 ≤ x ∧ x ≤ 57) ∨ x = 46
def NameOk (s : ByteArray) : Prop := 1 ≤ s.size ∧ s.size ≤ 20 ∧ ∀ i, i < s.size → okc (chr s i)
instance (x : Int) : Decidable (okc x) := by unfold okc; exact inferInstance
instance (s : ByteArray) : Decidable (NameOk s) := by unfold NameOk; exact inferInstance
theorem name_ne {s : ByteArray} (hz : ¬ s.size = 0) : s.toList.isEmpty = false := by
  rw [ByteArray.toList_eq]
  cases hl : s.data.toList with
  | nil => exact absurd (by have := congrArg List.length hl; simpa using this) hz
  | cons _ _ => rfl
theorem okc_cases (x : Int) : (¬ x < 97 ∧ 97 ≤ x ∧ ¬ 122 < x ∧ x ≤ 122 ∧ okc x) ∨ (x < 97 ∧ ¬ 97 ≤ x ∧ ¬ x < 48 ∧ 48 ≤ x ∧ ¬ 57 < x ∧ x ≤ 57 ∧ okc x) ∨ (x = 46 ∧ okc x) ∨ (x < 97 ∧ ¬ 97 ≤ x ∧ x < 48 ∧ ¬ 48 ≤ x ∧ (x == 46) = false ∧ (x != 46) = true ∧ ¬ okc x) ∨ (x < 97 ∧ ¬ 97 ≤ x ∧ ¬ x < 48 ∧ 48 ≤ x ∧ 57 < x ∧ ¬ x ≤ 57 ∧ (x == 46) = false ∧ (x != 46) = true ∧ ¬ okc x) ∨ (¬ x < 97 ∧ 97 ≤ x ∧ 122 < x ∧ ¬ x ≤ 122 ∧ ¬ x < 48 ∧ 48 ≤ x ∧ 57 < x ∧ ¬ x ≤ 57 ∧ (x == 46) = false ∧ (x != 46) = true ∧ ¬ okc x) := by
  unfold okc
  by_cases h2 : x = 46
  · subst h2; simp
  · have e2 : (x == 46) = false := by simp [h2]
    simp [e2, bne]
    omega
set_option maxHeartbeats 4000000 in
theorem named_calls (s : ByteArray) (w : World) (hm : s.size ≤ maxLen) : Calls Try.prog 63 #[.string s] w fun e w' => e = .returned (.bool (decide (NameOk s))) ∧ w = w' := by
  by_cases hz : s.size = 0
  · have hr : decide (NameOk s) = false := decide_eq_false (by unfold NameOk; omega)
    have hs : s = ⟨#[]⟩ := by
      obtain ⟨⟨l⟩⟩ := s
      have : l = [] := List.length_eq_zero_iff.1 hz
      subst this; rfl
    rw [hr]
    subst hs
    clear hr hz
    go_enter Try.func63, Try.ntmps63
    go_wp2_with fail
    go_loopw [3, 4, 7] (fun _ _ i wr => i = .int .i64 0 ∧ w = wr) (fun _ _ _ _ => 0)
    case atStart => exact ⟨rfl, rfl⟩
    case round =>
      obtain ⟨rfl, rfl⟩ := hrel
      go_wp2_with fail
      go_ret
      exact ⟨rfl, rfl⟩
  unfold maxLen at hm
  have hne := name_ne hz
  have hpos : 0 < s.size := by omega
  have Hn := Lib.hid (show NameOk s ↔ 1 ≤ s.size ∧ s.size ≤ 20 ∧ ∀ i, i < s.size → okc (chr s i) from Iff.rfl)
  obtain ⟨r, hr⟩ : ∃ r, decide (NameOk s) = r := ⟨_, rfl⟩
  rw [hr]
  have Hr := Lib.hid hr
  clear hr hz
  go_enter Try.func63, Try.ntmps63
  go_wp2_with fail
  go_loopw [3, 4, 7] (fun _ _ i wr => ∃ k : Nat, k ≤ s.size ∧ i = .int .i64 k ∧ Hid (∀ j, j < k → okc (chr s j)) ∧ w = wr) (fun _ _ i _ => s.size - (intOf i).toNat)
  case atStart => exact ⟨0, Nat.zero_le _, rfl, Lib.hid (fun j hj => by omega), rfl⟩
  case round =>
    obtain ⟨k, hk, rfl, Hok, rfl⟩ := hrel
    by_cases hlt : k < s.size
    · have g2 : (k : Int) < s.size := by omega
      have g3 : (0 : Int) ≤ k := by omega
      have ek := chr_get hlt
      have hcs := okc_cases (chr s k)
      have Hc := Lib.hid (show ∀ x, chr s k = x → (okc x → ∀ j, j < k + 1 → okc (chr s j)) ∧ (¬ okc x → r = false) from fun x e => ⟨fun h j hj => by
        by_cases ej : j = k
        · subst ej; rw [e]; exact h
        · exact Hok.out j (by omega), fun h => by
          rw [← Hr.out]
          refine decide_eq_false (fun hn => h ?_)
          have := hn.2.2 k hlt
          rw [e] at this; exact this⟩)
      obtain ⟨x, hx⟩ : ∃ c, chr s k = c := ⟨_, rfl⟩
      replace Hc := Lib.hid (Hc.out x hx)
      rw [hx] at ek hcs
      clear hx
      rcases hcs with ⟨k1, k2, k3, k4, ho⟩ | ⟨k1, k2, k3, k4, k5, k6, ho⟩ | ⟨rfl, ho⟩ | ⟨k1, k2, k3, k4, k5, k6, ho⟩ | ⟨k1, k2, k3, k4, k5, k6, k7, k8, ho⟩ | ⟨k1, k2, k3, k4, k5, k6, k7, k8, k9, k10, ho⟩
      all_goals
        have Ho := Lib.hid ho
        clear ho
        go_wp2_with fail
        first
          | (go_roundw
             case rel => exact ⟨k + 1, by omega, by go_num, Lib.hid (Hc.out.1 Ho.out), trivial⟩
             case measure => simp [intOf]; omega)
          | (go_ret
             exact ⟨ret_b rfl (Hc.out.2 Ho.out).symm, rfl⟩)
          | fail
    · obtain rfl : k = s.size := by omega
      have hr2 : r = decide (s.size ≤ 20) := by
        rw [← Hr.out]
        refine decide_eq_decide.2 ⟨fun h => h.2.1, fun h => ⟨hpos, h, Hok.out⟩⟩
      clear Hok
      by_cases h20 : s.size ≤ 20
      · have g1 : (s.size : Int) ≤ 20 := by omega
        rw [decide_eq_true h20] at hr2
        subst hr2
        clear h20
        go_wp2_with fail
        go_ret
        exact ⟨rfl, rfl⟩
      · have g1 : ¬ (s.size : Int) ≤ 20 := by omega
        rw [decide_eq_false h20] at hr2
        subst hr2
        clear h20
        go_wp2_with fail
        go_ret
        exact ⟨rfl, rfl⟩
theorem rdy_fn (s : ByteArray) (w : World) (hm : s.size ≤ maxLen) : Calls Try.prog 62 #[.string s] w fun e w' => e = .returned (.bool (!decide (NameOk s))) ∧ w = w' := by
  go_enter Try.func62, Try.ntmps62
  go_wp2_with (go_at_call 63; refine (named_calls s _ hm).mono ?_; rintro e w' ⟨rfl, rfl⟩)
  go_ret
  exact ⟨rfl, rfl⟩
end Go.Proofs.Ytdopmcepfacdlaa

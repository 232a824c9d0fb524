/- WindowParts: its plain laws. -/
import Derived.Test.YtafdddakkenlaaaWinZ
namespace Go.Proofs.Ytafdddakkenlaaa
open Go.RowKit

theorem of_n {t k : Int} (h0 : 0 ≤ t) (h1 : t ≤ 1099511627776) (h : wWidth k ≠ 0) : wOf t k = (t - t % wWidth k, min (t - t % wWidth k + wWidth k) 1099511627777) := by
  have hs := start_alt (k := k) (t := t) (by omega) (by omega) h
  have hw := wWidth_bd k
  have hm := Int.emod_nonneg t h
  have hd := Int.emod_add_mul_ediv t (wWidth k)
  have hq : 0 ≤ wWidth k * (t / wWidth k) := Int.mul_nonneg (by omega) (Int.ediv_nonneg h0 (by omega))
  unfold wOf
  rw [hs, if_neg (by omega), mn_eq]
theorem wW0 : wWidth 0 = 1 := rfl
theorem wW1 : wWidth 1 = 10 := rfl
theorem wW2 : wWidth 2 = 60 := rfl
theorem wW3 : wWidth 3 = 3600 := rfl
/-- P1: a time's window of each tier. -/
theorem part_of {t k : Int} (h0 : 0 ≤ t) (h1 : t ≤ 1099511627776) (hk : 0 ≤ k) (hk' : k < 4) :
    (wOf t k).1 ≤ t ∧ t < (wOf t k).2 ∧ (wOf t k).1 % wWidth k = 0 ∧ (k < 3 → (wOf t (k + 1)).1 ≤ (wOf t k).1 ∧ (wOf t k).2 ≤ (wOf t (k + 1)).2) ∧ wStart (wOf t k).1 k = (wOf t k).1 ∧ wStart ((wOf t k).2 - 1) k = (wOf t k).1 ∧ 0 ≤ (wOf t k).1 ∧ (wOf t k).2 ≤ 1099511627777 := by
  have hc : k = 0 ∨ k = 1 ∨ k = 2 ∨ k = 3 := by omega
  have key : ∀ (W : Int) (j : Int), wWidth j = W → (W = 1 ∨ W = 10 ∨ W = 60 ∨ W = 3600) → (wOf t j).1 ≤ t ∧ t < (wOf t j).2 ∧ (wOf t j).1 % W = 0 ∧ wStart (wOf t j).1 j = (wOf t j).1 ∧ wStart ((wOf t j).2 - 1) j = (wOf t j).1 ∧ 0 ≤ (wOf t j).1 ∧ (wOf t j).2 ≤ 1099511627777 ∧ wOf t j = (t - t % W, min (t - t % W + W) 1099511627777) := by
    intro W j hW hc
    have ho := of_n h0 h1 (k := j) (by omega)
    rw [hW] at ho
    rw [ho]
    simp only
    have q1 : 0 ≤ t - t % W := by rcases hc with rfl | rfl | rfl | rfl <;> omega
    have s1 := start_alt (t := t - t % W) (k := j) (by omega) (by rcases hc with rfl | rfl | rfl | rfl <;> omega) (by omega)
    have s2 := start_alt (t := min (t - t % W + W) 1099511627777 - 1) (k := j) (by rcases hc with rfl | rfl | rfl | rfl <;> omega) (by omega) (by omega)
    rw [hW] at s1 s2
    rw [s1, s2]
    by_cases hle : t - t % W + W ≤ 1099511627777
    · rw [Int.min_eq_left hle]; refine ⟨?_, ?_, ?_, ?_, ?_, ?_, ?_, trivial⟩ <;> rcases hc with rfl | rfl | rfl | rfl <;> omega
    · rw [Int.min_eq_right (by omega)]; refine ⟨?_, ?_, ?_, ?_, ?_, ?_, ?_, trivial⟩ <;> rcases hc with rfl | rfl | rfl | rfl <;> omega
  rcases hc with rfl | rfl | rfl | rfl
  · obtain ⟨a1, a2, a3, a4, a5, a6, a7, a8⟩ := key 1 0 wW0 (by omega)
    obtain ⟨_, _, _, _, _, _, _, b8⟩ := key 10 (0 + 1) rfl (by omega)
    refine ⟨a1, a2, by rw [wW0]; exact a3, fun _ => ?_, a4, a5, a6, a7⟩
    rw [a8, b8]; simp only; omega
  · obtain ⟨a1, a2, a3, a4, a5, a6, a7, a8⟩ := key 10 1 wW1 (by omega)
    obtain ⟨_, _, _, _, _, _, _, b8⟩ := key 60 (1 + 1) rfl (by omega)
    refine ⟨a1, a2, by rw [wW1]; exact a3, fun _ => ?_, a4, a5, a6, a7⟩
    rw [a8, b8]; simp only; omega
  · obtain ⟨a1, a2, a3, a4, a5, a6, a7, a8⟩ := key 60 2 wW2 (by omega)
    obtain ⟨_, _, _, _, _, _, _, b8⟩ := key 3600 (2 + 1) rfl (by omega)
    refine ⟨a1, a2, by rw [wW2]; exact a3, fun _ => ?_, a4, a5, a6, a7⟩
    rw [a8, b8]; simp only; omega
  · obtain ⟨a1, a2, a3, a4, a5, a6, a7, a8⟩ := key 3600 3 wW3 (by omega)
    exact ⟨a1, a2, by rw [wW3]; exact a3, fun h => by omega, a4, a5, a6, a7⟩
theorem w_of3 {k : Int} (hk : 0 ≤ k) (hk' : k < 4) : wWidth k = 1 ∨ wWidth k = 10 ∨ wWidth k = 60 ∨ wWidth k = 3600 := by
  have hc : k = 0 ∨ k = 1 ∨ k = 2 ∨ k = 3 := by omega
  rcases hc with rfl | rfl | rfl | rfl <;> simp [wWidth]
theorem chk_ok {a b : Int} (h0 : 0 ≤ a) (h1 : a ≤ b) (h2 : b ≤ 1099511627777) : wCheck (a, b) = 0 := by unfold wCheck; rw [if_neg (by omega)]
theorem may_ok {a b k : Int} (h0 : 0 ≤ a) (h1 : a ≤ b) (h2 : b ≤ 1099511627777) (hw : 0 < wWidth k) : wMay (a, b) k = true := by
  simp [wMay, chk_ok h0 h1 h2, hw]
/-- P2: a span's cover. -/
theorem part_cover {a b k : Int} (h0 : 0 ≤ a) (h1 : a ≤ b) (h2 : b ≤ 1099511627777) (ha : a ≤ 1099511627776) (hk : 0 ≤ k) (hk' : k < 4) :
    (wCover (a, b) k).1 = a - a % wWidth k ∧ (a = b → (wCover (a, b) k).2 = (wCover (a, b) k).1) ∧ (a < b → (wCover (a, b) k).2 = min (b - 1 - (b - 1) % wWidth k + wWidth k) 1099511627777) := by
  have hw := w_of3 hk hk'
  have hm := may_ok h0 h1 h2 (k := k) (by omega)
  have hs := start_alt (t := a) (k := k) (by omega) (by omega) (by omega)
  unfold wCover
  rw [if_neg (by simp [hm]; omega)]
  by_cases e : a = b
  · subst e
    rw [if_pos rfl]
    exact ⟨hs, fun _ => rfl, fun h => by omega⟩
  · rw [if_neg e]
    simp only [hs]
    refine ⟨trivial, fun h => absurd h e, fun h => ?_⟩
    rw [of_n (by omega) (by omega) (by omega)]
def lastOf (l : List Sp) : Int := match l.getLast? with | some x => x.2 | none => -1
theorem lastOf_nil : lastOf [] = -1 := rfl
theorem lastOf_snoc (l : List Sp) (x : Sp) : lastOf (l ++ [x]) = x.2 := by simp [lastOf]
/-- A window that does not fit behind those ahead of it. -/
def badW (a k : Int) (l : List Sp) : Prop := ∃ pre x, l = pre ++ [x] ∧ ((pre = [] ∧ (a < x.1 ∨ x.2 ≤ a)) ∨ (pre ≠ [] ∧ x.1 ≠ lastOf pre) ∨ wOf x.1 k ≠ x)
/-- P2: the windows of a span fit. -/
theorem part_fits {a b k : Int} (h0 : 0 ≤ a) (h1 : a ≤ b) (h2 : b ≤ 1099511627777) (ha : a ≤ 1099511627776) (hk : 0 ≤ k) (hk' : k < 4) (m : Nat) (hm : m ≤ (wCount (a, b) k).toNat) : ¬ badW a k (wEach (a, b) k m) := by
  rintro ⟨pre, x, he, hb⟩
  have hl : (wEach (a, b) k m).length = pre.length + 1 := by rw [he]; simp
  rw [wEach_len] at hl
  obtain ⟨n, hn0⟩ : ∃ n, n = pre.length := ⟨_, rfl⟩
  rw [← hn0] at hl
  subst hl
  rw [wEach_succ] at he
  obtain ⟨e1, e2⟩ := List.append_inj he (by rw [wEach_len]; exact hn0)
  obtain rfl : wE (a, b) k _ = x := by simpa using e2
  rw [← e1] at hb
  clear e1 e2 he hn0 pre
  obtain ⟨c1, c2, c3⟩ := part_cover h0 h1 h2 ha hk hk'
  have hw := w_of3 hk hk'
  have hn : (n : Int) < wCount (a, b) k := by omega
  rcases hb with ⟨hp, hx⟩ | ⟨hp, hx⟩ | hx
  · have hl2 : (wEach (a, b) k n).length = 0 := by rw [hp]; rfl
    rw [wEach_len] at hl2
    subst hl2
    have e : wE (a, b) k 0 = ((wCover (a, b) k).1, min ((wCover (a, b) k).1 + wWidth k) 1099511627777) := by simp [wE, wT, mn_eq]
    rw [e, c1] at hx
    simp only at hx
    have hm1 := Int.emod_nonneg a (b := wWidth k) (by omega)
    have hm2 := Int.emod_lt_of_pos a (b := wWidth k) (by omega)
    omega
  · match n with
    | 0 => exact hp rfl
    | n + 1 =>
      rw [wEach_succ, lastOf_snoc, each_next hn] at hx
      exact hx rfl
  · apply hx
    have := of_each hn
    exact this

theorem part_end {a b k : Int} (h0 : 0 ≤ a) (h1 : a ≤ b) (h2 : b ≤ 1099511627777) (ha : a ≤ 1099511627776) (hk : 0 ≤ k) (hk' : k < 4) :
    a ≤ (wInner (a, b) k).1 ∧ (wInner (a, b) k).2 ≤ b ∧ wAligned ((wCover (a, b) k).1, (wCover (a, b) k).2) k = true ∧
    (a = b ∧ (wCount (a, b) k).toNat = 0 ∨ a < b ∧ 0 < (wCount (a, b) k).toNat ∧ b ≤ lastOf (wEach (a, b) k (wCount (a, b) k).toNat) ∧ (wCover (a, b) k).1 ≤ a ∧ (wCover (a, b) k).2 = lastOf (wEach (a, b) k (wCount (a, b) k).toNat)) := by
  obtain ⟨c1, c2, c3⟩ := part_cover h0 h1 h2 ha hk hk'
  have hw := w_of3 hk hk'
  have hm := may_ok h0 h1 h2 (k := k) (by omega)
  have hcb := wCover_bd (a, b) k
  have hf : a ≤ wInF (a, b) k := by
    unfold wInF
    split
    · exact Int.le_refl _
    · rw [of_n h0 ha (by omega)]
      have hm2 := Int.emod_lt_of_pos a (b := wWidth k) (by omega)
      simp only; omega
  have ht : wInT (a, b) k ≤ b := by
    unfold wInT
    split
    · exact Int.le_refl _
    · rename_i hb
      have hbe : b ≠ 1099511627777 := by intro e; subst e; simp [wEdge] at hb
      rw [start_alt (by simp only; omega) (by simp only; omega) (by omega)]
      have hm2 := Int.emod_nonneg b (b := wWidth k) (by omega)
      simp only; omega
  have hi : wInner (a, b) k = if wInT (a, b) k ≤ wInF (a, b) k then (a, a) else (wInF (a, b) k, wInT (a, b) k) := by
    unfold wInner; rw [if_neg (by simp [hm])]
  refine ⟨?_, ?_, ?_, ?_⟩
  · rw [hi]; split <;> simp only <;> omega
  · rw [hi]; split <;> simp only <;> omega
  · have e1 : wEdge (wCover (a, b) k).1 k = true := by
      have : (a - a % wWidth k) % wWidth k = 0 := by rcases hw with h | h | h | h <;> rw [h] <;> omega
      rw [c1]; simp [wEdge, this]
    have e2 : wEdge (wCover (a, b) k).2 k = true := by
      by_cases e : a = b
      · rw [c2 e]; exact e1
      · rw [c3 (by omega)]
        by_cases hle : b - 1 - (b - 1) % wWidth k + wWidth k ≤ 1099511627777
        · rw [Int.min_eq_left hle]
          have : (b - 1 - (b - 1) % wWidth k + wWidth k) % wWidth k = 0 := by rcases hw with h | h | h | h <;> rw [h] <;> omega
          simp [wEdge, this]
        · rw [Int.min_eq_right (by omega)]; simp [wEdge]
    have hle : (wCover (a, b) k).1 ≤ (wCover (a, b) k).2 := by
      by_cases e : (wCover (a, b) k).1 = (wCover (a, b) k).2
      · omega
      · have := wCover_lt e; omega
    simp [wAligned, may_ok (k := k) hcb.1 hle hcb.2.2.2 (by omega), e1, e2]
  · have hE : ∀ i, wE (a, b) k i = (wT (a, b) k i, min (wT (a, b) k i + wWidth k) 1099511627777) := fun i => by simp [wE, mn_eq]
    have hT : ∀ i : Nat, wT (a, b) k i = (wCover (a, b) k).1 + i * wWidth k := fun i => rfl
    by_cases e : a = b
    · left; refine ⟨e, ?_⟩
      unfold wCount; rw [if_pos (c2 e).symm]; rfl
    · right
      have e3 := c3 (by omega)
      have hlt : (wCover (a, b) k).1 < (wCover (a, b) k).2 := by
        rw [c1, e3]; rcases hw with h | h | h | h <;> rw [h] <;> omega
      have hp := (cnt_iff (a, b) k 0).2 (by rw [hT]; simpa using hlt)
      obtain ⟨m, hm1⟩ : ∃ m, (wCount (a, b) k).toNat = m + 1 := ⟨(wCount (a, b) k).toNat - 1, by omega⟩
      have hi := (cnt_iff (a, b) k m).1 (by omega)
      have hl := each_last (s := (a, b)) (k := k) (i := m) (by omega)
      rw [hm1, wEach_succ, lastOf_snoc]
      rw [hE] at hl ⊢
      simp only at hl ⊢
      rw [hT, c1] at hl hi ⊢
      rw [e3] at hl hi ⊢
      refine ⟨by omega, by omega, ?_, ?_, ?_⟩
      all_goals (rcases hw with h | h | h | h <;> rw [h] at hl hi ⊢ <;> omega)
end Go.Proofs.Ytafdddakkenlaaa

/- Vectors: plain laws. No program in sight. -/
import Derived.Test.YtnneebdcaefgoaaUt
namespace Go.Proofs.Ytnneebdcaefgoaa
open Go.RowKit

abbrev topN : Int := 1099511627776
/-- A number as a vector may have it. -/
def clN (x : Int) : Int := if x < 0 then 0 else if topN < x then topN else x
theorem clN_nn (x : Int) : 0 ≤ clN x ∧ clN x ≤ topN := by unfold clN topN; split <;> (try split) <;> omega
theorem clN_id {x : Int} (h : 0 ≤ x ∧ x ≤ topN) : clN x = x := by unfold clN; rw [if_neg (by omega), if_neg (by omega)]
theorem clN_mn (x : Int) : mn (mx x 0) topN = clN x := by unfold mn mx clN topN; split <;> split <;> (try split) <;> omega
/-- A site's number. -/
def at8 (v : List Int) (i : Nat) : Int := clN (v.getD i 0)
theorem at8_nn (v : List Int) (i : Nat) : 0 ≤ at8 v i ∧ at8 v i ≤ topN := clN_nn _
theorem at8_get {v : List Int} {i : Nat} (h : i < v.length) : at8 v i = clN v[i] := by unfold at8; simp [List.getD, h]
theorem at8_out {v : List Int} {i : Nat} (h : v.length ≤ i) : at8 v i = 0 := by unfold at8; simp [List.getD, List.getElem?_eq_none h, clN, topN]
theorem at8_nil (i : Nat) : at8 [] i = 0 := at8_out (Nat.zero_le _)
/-- How many of the first n are ahead of the zeros at the end. -/
def slen (f : Nat → Int) : Nat → Nat
  | 0 => 0
  | n + 1 => if f n = 0 then slen f n else n + 1
theorem slen_le (f : Nat → Int) : ∀ n, slen f n ≤ n
  | 0 => Nat.le_refl _
  | n + 1 => by unfold slen; have := slen_le f n; split <;> omega
theorem slen_zero (f : Nat → Int) : ∀ n j, slen f n ≤ j → j < n → f j = 0
  | 0, j, _, h => by omega
  | n + 1, j, h1, h2 => by
    unfold slen at h1
    by_cases h : f n = 0
    · rw [if_pos h] at h1
      by_cases e : j = n
      · subst e; exact h
      · exact slen_zero f n j h1 (by omega)
    · rw [if_neg h] at h1; omega
theorem slen_last (f : Nat → Int) : ∀ n k, slen f n = k + 1 → f k ≠ 0
  | 0, k, h => by simp [slen] at h
  | n + 1, k, h1 => by
    unfold slen at h1
    by_cases h : f n = 0
    · rw [if_pos h] at h1; exact slen_last f n k h1
    · rw [if_neg h] at h1
      have : n = k := by omega
      subst this; exact h
theorem slen_stop {f : Nat → Int} {n m : Nat} (h : ∀ j, n ≤ j → j < m → f j = 0) (hn : n ≤ m) : slen f m = slen f n := by
  induction m with
  | zero => have : n = 0 := by omega
            rw [this]
  | succ m ih =>
    by_cases e : n = m + 1
    · rw [e]
    · have e2 : slen f (m + 1) = slen f m := by rw [slen, if_pos (h m (by omega) (by omega))]
      rw [e2]
      exact ih (fun j h1 h2 => h j h1 (by omega)) (by omega)
theorem slen_congr {f g : Nat → Int} : ∀ n, (∀ j, j < n → f j = g j) → slen f n = slen g n
  | 0, _ => rfl
  | n + 1, h => by
    unfold slen
    rw [h n (by omega), slen_congr n (fun j hj => h j (by omega))]
/-- A vector: without zeros at the end. -/
def vecN (f : Nat → Int) (n : Nat) : List Int := (List.range (slen f n)).map f
def vecOf (f : Nat → Int) : List Int := vecN f 8
theorem vecOf_len (f : Nat → Int) : (vecOf f).length = slen f 8 := by simp [vecOf, vecN]
theorem vecOf_le (f : Nat → Int) : (vecOf f).length ≤ 8 := by rw [vecOf_len]; exact slen_le f 8
theorem vecOf_getD (f : Nat → Int) {i : Nat} (h : i < 8) : (vecOf f).getD i 0 = f i := by
  by_cases hi : i < slen f 8
  · simp [vecOf, vecN, List.getD, hi]
  · rw [List.getD, List.getElem?_eq_none (by rw [vecOf_len]; omega), Option.getD_none, slen_zero f 8 i (by omega) h]
theorem vecOf_get (f : Nat → Int) {i : Nat} (h : i < (vecOf f).length) : (vecOf f)[i] = f i := by simp [vecOf, vecN]
theorem vecOf_congr {f g : Nat → Int} (h : ∀ j, j < 8 → f j = g j) : vecOf f = vecOf g := by
  have e := slen_congr 8 h
  unfold vecOf vecN
  rw [e]
  apply List.map_congr_left
  intro j hj
  have := slen_le g 8
  exact h j (by have := List.mem_range.1 hj; omega)
theorem vecOf_inj {f g : Nat → Int} (h : vecOf f = vecOf g) {j : Nat} (hj : j < 8) : f j = g j := by
  rw [← vecOf_getD f hj, ← vecOf_getD g hj, h]
theorem vecOf_eq {f g : Nat → Int} : vecOf f = vecOf g ↔ ∀ j, j < 8 → f j = g j := ⟨fun h _ hj => vecOf_inj h hj, vecOf_congr⟩
theorem at8_vec {f : Nat → Int} {i : Nat} (h : i < 8) (hf : 0 ≤ f i ∧ f i ≤ topN) : at8 (vecOf f) i = f i := by
  unfold at8; rw [vecOf_getD f h, clN_id hf]
/-- The same one, as it may be. -/
def plainV (v : List Int) : List Int := vecOf (at8 v)
theorem at8_plain (v : List Int) {i : Nat} (h : i < 8) : at8 (plainV v) i = at8 v i := at8_vec h (at8_nn v i)
theorem plain_plain (v : List Int) : plainV (plainV v) = plainV v := vecOf_congr fun _ h => at8_plain v h
def atV (v : List Int) (s : Int) : Int := if 0 ≤ s ∧ s < 8 then at8 v s.toNat else 0
def withF (v : List Int) (s n : Int) (i : Nat) : Int := if (i : Int) = s then clN n else at8 v i
def withV (v : List Int) (s n : Int) : List Int := vecOf (withF v s n)
def joinF (a b : List Int) (i : Nat) : Int := mx (at8 a i) (at8 b i)
def joinV (a b : List Int) : List Int := vecOf (joinF a b)
def Cov (a b : List Int) : Prop := ∀ i, i < 8 → at8 b i ≤ at8 a i
instance (a b : List Int) : Decidable (Cov a b) := by unfold Cov; exact inferInstance
theorem withF_nn (v : List Int) (s n : Int) (i : Nat) : 0 ≤ withF v s n i ∧ withF v s n i ≤ topN := by
  unfold withF; split
  · exact clN_nn n
  · exact at8_nn v i
theorem joinF_nn (a b : List Int) (i : Nat) : 0 ≤ joinF a b i ∧ joinF a b i ≤ topN := by
  unfold joinF mx; have := at8_nn a i; have := at8_nn b i; split <;> omega
theorem at8_with (v : List Int) (s n : Int) {i : Nat} (h : i < 8) : at8 (withV v s n) i = withF v s n i := at8_vec h (withF_nn v s n i)
theorem at8_join (a b : List Int) {i : Nat} (h : i < 8) : at8 (joinV a b) i = joinF a b i := at8_vec h (joinF_nn a b i)
theorem cov_join {a b : List Int} : joinV a b = plainV a ↔ Cov a b := by
  unfold joinV plainV
  rw [vecOf_eq]
  unfold Cov joinF mx
  constructor
  · intro h j hj
    have := h j hj
    split at this <;> omega
  · intro h j hj
    have := h j hj
    rw [if_neg (by omega)]
theorem cov_refl (a : List Int) : Cov a a := fun _ _ => Int.le_refl _
theorem cov_trans {a b c : List Int} (h1 : Cov a b) (h2 : Cov b c) : Cov a c := fun i hi => Int.le_trans (h2 i hi) (h1 i hi)
theorem atV_nn (v : List Int) (s : Int) : 0 ≤ atV v s ∧ atV v s ≤ topN := by
  unfold atV; split
  · exact at8_nn v _
  · unfold topN; omega
theorem atV_in (v : List Int) {i : Nat} (h : i < 8) : atV v i = at8 v i := by unfold atV; rw [if_pos (by omega)]; rfl
theorem plainV_le (v : List Int) : (plainV v).length ≤ 8 := vecOf_le _
theorem plainV_nil : plainV [] = [] := by decide
end Go.Proofs.Ytnneebdcaefgoaa

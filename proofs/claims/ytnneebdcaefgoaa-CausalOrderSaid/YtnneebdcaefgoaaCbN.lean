/- CausalAnew: plain. -/
import Derived.Test.YtnneebdcaefgoaaCbM
namespace Go.Proofs.Ytnneebdcaefgoaa
open Go.RowKit Go.Maps

theorem least {P : Nat → Prop} : ∀ n, P n → ∃ m, m ≤ n ∧ P m ∧ ∀ j, j < m → ¬ P j := fun n => by
  induction n using Nat.strongRecOn with
  | _ n ih =>
    intro hn
    by_cases h : ∃ j, j < n ∧ P j
    · obtain ⟨j, hj, hp⟩ := h
      obtain ⟨m, h1, h2, h3⟩ := ih j hj hp
      exact ⟨m, by omega, h2, h3⟩
    · exact ⟨n, Nat.le_refl _, hn, fun j hj hp => h ⟨j, hj, hp⟩⟩
/-- The first i were offered. -/
def offK (l : List Rec) (i : Nat) (s q : Int) : Bool := (l.take i).any fun r => decide (s = r.st ∧ q = r.q)
theorem offK_zero (l : List Rec) (s q : Int) : offK l 0 s q = false := by simp [offK]
theorem offK_succ (l : List Rec) {i : Nat} (hi : i < l.length) : offAdd (offK l i) l[i] = offK l (i + 1) := by
  funext s q
  have e : l.take (i + 1) = l.take i ++ [l[i]] := List.take_succ_eq_append_getElem hi
  unfold offAdd offK
  rw [e, List.any_append, List.any_cons, List.any_nil, Bool.or_false]
theorem offK_iff {l : List Rec} (hl : LogP l) {i j : Nat} (hj : j < l.length) : offK l i l[j].st l[j].q = true ↔ j < i := by
  unfold offK
  rw [List.any_eq_true]
  constructor
  · rintro ⟨r, hr, h⟩
    simp only [decide_eq_true_eq] at h
    obtain ⟨t, ht, rfl⟩ := List.getElem_of_mem hr
    have ht' := ht
    rw [List.length_take] at ht'
    rw [List.getElem_take] at h
    have := key_uniq l hl hj (show t < l.length by omega) h.1 h.2
    omega
  · intro h
    refine ⟨l[j], ?_, by simp⟩
    rw [List.mem_take_iff_getElem]
    exact ⟨j, by omega, rfl⟩
theorem BI.congr {l : List Rec} {Off Off' : Int → Int → Bool} {B : Buf} (h : BI l Off B) (he : ∀ j (hj : j < l.length), atV B.out l[j].st < l[j].q → Off l[j].st l[j].q = Off' l[j].st l[j].q) : BI l Off' B := by
  refine ⟨h.most, fun s q => ?_, ?_, h.plain⟩
  · rw [h.f]
    cases hk : keyF l s q with
    | none => simp
    | some r =>
      obtain ⟨rfl, rfl, j, hj, rfl⟩ := keyF_some hk
      by_cases h1 : atV B.out l[j].st < l[j].q
      · rw [he j hj h1]
      · rw [if_neg (fun z => h1 z.1), if_neg (fun z => h1 z.1)]
  · rw [h.n]
    refine List.countP_congr (fun r hr => ?_)
    obtain ⟨j, hj, rfl⟩ := List.getElem_of_mem hr
    by_cases h1 : atV B.out l[j].st < l[j].q
    · rw [he j hj h1]
    · simp [h1]
theorem BI.new (l : List Rec) (out : List Int) (ho : plainV out = out) : BI l (offK l 0) (bufNew 400 out) := by
  have hj : joinV out [] = out := by
    rw [← ho]
    refine vecOf_congr (fun i hi => ?_)
    unfold joinF
    rw [at8_nil, at8_plain _ hi, mx_eq]
    have := (at8_nn out i).1
    omega
  refine ⟨(by show roomOf 400 = 400; decide), fun s q => ?_, ?_, ?_⟩
  · rw [if_neg (fun z => by rw [offK_zero] at z; cases z.2)]; rfl
  · show 0 = _
    symm
    rw [List.countP_eq_zero]
    intro r _
    rw [offK_zero]; simp
  · show plainV (joinV out []) = joinV out []
    rw [hj, ho]
theorem bufNew_out {out : List Int} (ho : plainV out = out) : (bufNew 400 out).out = out := by
  show joinV out [] = out
  rw [← ho]
  refine vecOf_congr (fun i hi => ?_)
  unfold joinF
  rw [at8_nil, at8_plain _ hi, mx_eq]
  have := (at8_nn out i).1
  omega
theorem offB_out (B : Buf) (r : Rec) : (offB B r).out = B.out := by unfold offB; split <;> rfl
theorem know_plain (l : List Rec) : plainV (knowV l) = knowV l := by
  rcases List.eq_nil_or_concat l with rfl | ⟨l', r, rfl⟩
  · decide
  · rw [List.concat_eq_append, knowV_snoc]; exact plain_with _ _ _
/-- One record after another: each comes out at once. -/
theorem anew_one {l : List Rec} (hl : LogP l) (hlen : l.length ≤ 40) {B : Buf} {i : Nat} (hi : i < l.length) (h : BI l (offK l i) B) (ho : B.out = knowV (l.take i)) :
    ∃ k, k < 8 ∧ nextAll (offB B l[i]) = some (k, l[i]) ∧ BI l (offK l (i + 1)) (takeB (offB B l[i]) k l[i]) ∧ (takeB (offB B l[i]) k l[i]).out = knowV (l.take (i + 1)) := by
  have h1 := h.offer hl hlen hi
  rw [offK_succ l hi] at h1
  have hout : (offB B l[i]).out = knowV (l.take i) := by rw [offB_out, ho]
  have hn := h1.next hl hi ((offK_iff hl hi).2 (by omega)) (by rw [hout]; exact know_lt l hl i i hi (Nat.le_refl _)) (fun j hj hji => by rw [hout]; exact know_mono l hl i (by omega) j hj hji)
  obtain ⟨s, hs, hne⟩ := hn
  cases hx : nextAll (offB B l[i]) with
  | none => exact absurd hx (nextAll_ne hs hne)
  | some kr =>
    obtain ⟨k, r⟩ := kr
    obtain ⟨hk, hnx⟩ := nextAll_some hx
    obtain ⟨g1, g2, ⟨j, hj, e1, e2, e3, e4⟩, g4⟩ := h1.take hl hk hnx
    subst e1
    have hji : j < i + 1 := (offK_iff hl hj).1 e4
    have : j = i := by
      by_cases e : j = i
      · exact e
      · have := know_mono l hl i (by omega) j hj (by omega)
        rw [e3, hout, e2] at this; omega
    subst this
    refine ⟨k, hk, rfl, g1, ?_⟩
    show withV (offB B l[j]).out k l[j].q = _
    rw [hout, List.take_succ_eq_append_getElem hj, knowV_snoc, e2]
/-- How many are still to come. -/
theorem BI.left {l : List Rec} (hl : LogP l) {k : Nat} (hk : k ≤ l.length) {B : Buf} (h : BI l (offK l l.length) B) (ho : B.out = knowV (l.take k)) : B.n = l.length - k := by
  rw [h.n, ← List.take_append_drop k l]
  rw [List.countP_append]
  have e1 : (l.take k).countP (fun r => decide (atV B.out r.st < r.q) && offK (l.take k ++ l.drop k) (l.take k ++ l.drop k).length r.st r.q) = 0 := by
    rw [List.countP_eq_zero]
    intro r hr
    obtain ⟨j, hj, rfl⟩ := List.getElem_of_mem hr
    rw [List.length_take] at hj
    have := know_mono l hl k hk j (by omega) (by omega)
    rw [List.getElem_take, ho]
    simp; intro z; omega
  have e2 : (l.drop k).countP (fun r => decide (atV B.out r.st < r.q) && offK (l.take k ++ l.drop k) (l.take k ++ l.drop k).length r.st r.q) = (l.drop k).length := by
    rw [List.countP_eq_length]
    intro r hr
    obtain ⟨j, hj, rfl⟩ := List.getElem_of_mem hr
    rw [List.length_drop] at hj
    have := know_lt l hl (k + j) k (by omega) (by omega)
    rw [List.getElem_drop, ho, List.take_append_drop]
    simp only [Bool.and_eq_true, decide_eq_true_eq]
    exact ⟨this, (offK_iff hl (by omega)).2 (by omega)⟩
  rw [e1, e2, List.length_drop, List.take_append_drop]
  omega
theorem BI.some {l : List Rec} (hl : LogP l) {B : Buf} (h : BI l (offK l l.length) B) (hn : 0 < B.n) : ∃ k r, k < 8 ∧ nextAll B = some (k, r) ∧ BI l (offK l l.length) (takeB B k r) ∧ (takeB B k r).n + 1 = B.n := by
  rw [h.n, List.countP_pos_iff] at hn
  obtain ⟨r, hr, hp⟩ := hn
  obtain ⟨j, hj, rfl⟩ := List.getElem_of_mem hr
  simp only [Bool.and_eq_true, decide_eq_true_eq] at hp
  obtain ⟨m, h1, ⟨hm, h2⟩, h3⟩ := least (P := fun m => ∃ (hm : m < l.length), atV B.out l[m].st < l[m].q) j ⟨hj, hp.1⟩
  obtain ⟨s, hs, hne⟩ := h.next hl hm ((offK_iff hl hm).2 hm) h2 (fun t ht htm => by
    by_cases e : atV B.out l[t].st < l[t].q
    · exact absurd ⟨ht, e⟩ (h3 t htm)
    · omega)
  cases hx : nextAll B with
  | none => exact absurd hx (nextAll_ne hs hne)
  | some kr =>
    obtain ⟨k, r⟩ := kr
    obtain ⟨hk, hnx⟩ := nextAll_some hx
    obtain ⟨g1, g2, _⟩ := h.take hl hk hnx
    exact ⟨k, r, hk, rfl, g1, g2⟩
theorem BI.none {l : List Rec} (hl : LogP l) {B : Buf} {Off : Int → Int → Bool} (h : BI l Off B) (hn : B.n = 0) : nextAll B = none := by
  cases hx : nextAll B with
  | none => rfl
  | some kr =>
    obtain ⟨k, r⟩ := kr
    obtain ⟨hk, hnx⟩ := nextAll_some hx
    obtain ⟨_, g2, _⟩ := h.take hl hk hnx
    omega
theorem BI.same {l : List Rec} {Off : Int → Int → Bool} {B B' : Buf} (h : BI l Off B) (h' : BI l Off B') (ho : B.out = B'.out) : nextAll B = nextAll B' :=
  nextAll_congr ho (fun s q => by rw [h.f, h'.f, ho])
end Go.Proofs.Ytnneebdcaefgoaa

/- What a buffer makes of a log's records, plain. -/
import Derived.Test.YtnneebdcaefgoaaCbK
namespace Go.Proofs.Ytnneebdcaefgoaa
open Go.RowKit Go.Maps

/-! ### A log's records -/
theorem know_mono (l : List Rec) (hl : LogP l) : ∀ i, i ≤ l.length → ∀ j (hj : j < l.length), j < i → l[j].q ≤ atV (knowV (l.take i)) l[j].st := by
  intro i
  induction i with
  | zero => intro _ j _ h; omega
  | succ i ih =>
    intro hi j hj hji
    have hil : i < l.length := by omega
    have e : l.take (i + 1) = l.take i ++ [l[i]] := List.take_succ_eq_append_getElem hil
    obtain ⟨h1, h2, h3⟩ := hl i hil
    have hr := recOk_rng h1
    have hrj := recOk_rng (hl j hj).1
    obtain ⟨s, hs⟩ := Int.eq_ofNat_of_zero_le hr.1.1
    obtain ⟨s', hs'⟩ := Int.eq_ofNat_of_zero_le hrj.1.1
    rw [e, knowV_snoc, hs, hs', atV_with _ _ _ (by omega)]
    by_cases hss : s' = s
    · rw [if_pos hss]
      rw [clN_id ⟨by omega, hr.2.2⟩]
      by_cases hjj : j = i
      · subst hjj; exact Int.le_refl _
      · have h4 := ih (by omega) j hj (by omega)
        rw [hs', hss, ← hs] at h4
        omega
    · rw [if_neg hss]
      have hjj : j ≠ i := fun z => by subst z; rw [hs] at hs'; omega
      have h4 := ih (by omega) j hj (by omega)
      rwa [hs'] at h4
theorem know_lt (l : List Rec) (hl : LogP l) (j i : Nat) (hj : j < l.length) (hij : i ≤ j) : atV (knowV (l.take i)) l[j].st < l[j].q := by
  have h1 := (hl j hj).2.1
  have key : ∀ d i, j = i + d → atV (knowV (l.take i)) l[j].st ≤ atV (knowV (l.take j)) l[j].st := by
    intro d
    induction d with
    | zero => intro i e; have : i = j := by omega
              subst this; exact Int.le_refl _
    | succ d ih =>
      intro i e
      have hil : i < l.length := by omega
      refine Int.le_trans ?_ (ih (i + 1) (by omega))
      have e2 : l.take (i + 1) = l.take i ++ [l[i]] := List.take_succ_eq_append_getElem hil
      obtain ⟨g1, g2, g3⟩ := hl i hil
      have hr := recOk_rng g1
      have hrj := recOk_rng (hl j hj).1
      obtain ⟨s, hs⟩ := Int.eq_ofNat_of_zero_le hr.1.1
      obtain ⟨s', hs'⟩ := Int.eq_ofNat_of_zero_le hrj.1.1
      rw [e2, knowV_snoc, hs, hs', atV_with _ _ _ (by omega)]
      by_cases hss : s' = s
      · rw [if_pos hss, clN_id ⟨by omega, hr.2.2⟩, hss, ← hs]; omega
      · rw [if_neg hss]; exact Int.le_refl _
  have := key (j - i) i (by omega)
  omega
/-- What is held by whom. -/
def keyF (l : List Rec) (s q : Int) : Option Rec := l.find? fun r => decide (r.st = s ∧ r.q = q)
theorem key_uniq (l : List Rec) (hl : LogP l) {i j : Nat} (hi : i < l.length) (hj : j < l.length) (h1 : l[i].st = l[j].st) (h2 : l[i].q = l[j].q) : i = j := by
  rcases Nat.lt_trichotomy i j with h | h | h
  · have a := know_mono l hl j (by omega) i hi h
    have b := know_lt l hl j j hj (Nat.le_refl _)
    rw [h1] at a; omega
  · exact h
  · have a := know_mono l hl i (by omega) j hj h
    have b := know_lt l hl i i hi (Nat.le_refl _)
    rw [← h1] at a; omega
theorem keyF_some {l : List Rec} {s q : Int} {r : Rec} (h : keyF l s q = some r) : r.st = s ∧ r.q = q ∧ ∃ (j : Nat) (hj : j < l.length), l[j] = r := by
  have h1 := List.find?_some h
  have h2 := List.mem_of_find?_eq_some h
  simp only [decide_eq_true_eq] at h1
  obtain ⟨j, hj, e⟩ := List.getElem_of_mem h2
  exact ⟨h1.1, h1.2, j, hj, e⟩
theorem keyF_get (l : List Rec) (hl : LogP l) {j : Nat} (hj : j < l.length) : keyF l l[j].st l[j].q = some l[j] := by
  cases h : keyF l l[j].st l[j].q with
  | none =>
    have := List.find?_eq_none.1 h l[j] (List.getElem_mem hj)
    simp at this
  | some r =>
    obtain ⟨h1, h2, i, hi, e⟩ := keyF_some h
    subst e
    have := key_uniq l hl hi hj h1 h2
    subst this; rfl
theorem count_one {p p' : Rec → Bool} : ∀ (l : List Rec) (j : Nat) (hj : j < l.length), (∀ i (hi : i < l.length), i ≠ j → p l[i] = p' l[i]) → p l[j] = false → p' l[j] = true → l.countP p' = l.countP p + 1
  | x :: r, 0, _, h, h1, h2 => by
    have e : r.countP p = r.countP p' := List.countP_congr (fun y hy => by
      obtain ⟨i, hi, rfl⟩ := List.getElem_of_mem hy
      have := h (i + 1) (by simpa using hi) (by omega)
      simp only [List.getElem_cons_succ] at this
      rw [this])
    simp only [List.getElem_cons_zero] at h1 h2
    rw [List.countP_cons, List.countP_cons, e, h1, h2]; simp
  | x :: r, j + 1, hj, h, h1, h2 => by
    have e := count_one (p := p) (p' := p') r j (by simpa using hj) (fun i hi hne => by have := h (i + 1) (by simpa using hi) (by omega); simpa using this) (by simpa using h1) (by simpa using h2)
    have e0 : p x = p' x := by have := h 0 (by simp) (by omega); simpa using this
    rw [List.countP_cons, List.countP_cons, e, e0]; omega
/-- A buffer that was offered some of a log's records. -/
structure BI (l : List Rec) (Off : Int → Int → Bool) (B : Buf) : Prop where
  most : B.most = 400
  f : ∀ s q, B.f s q = if atV B.out s < q ∧ Off s q = true then keyF l s q else none
  n : B.n = l.countP fun r => decide (atV B.out r.st < r.q) && Off r.st r.q
  plain : plainV B.out = B.out
theorem BI.le {l : List Rec} {Off : Int → Int → Bool} {B : Buf} (h : BI l Off B) : B.n ≤ l.length := by rw [h.n]; exact List.countP_le_length
theorem BI.out {l : List Rec} {Off : Int → Int → Bool} {B : Buf} (h : BI l Off B) : B.out.length ≤ 8 := by rw [← h.plain]; exact plainV_le _
theorem BI.own {l : List Rec} {Off : Int → Int → Bool} {B : Buf} (h : BI l Off B) : Own B := fun s q r e => by
  rw [h.f] at e
  split at e
  · obtain ⟨h1, h2, _⟩ := keyF_some e; exact ⟨h1, h2⟩
  · cases e
theorem BI.k {l : List Rec} (hl : LogP l) {Off : Int → Int → Bool} {B : Buf} (h : BI l Off B) : ∀ s q r, B.f s q = some r → r.d.length ≤ 1000000 := fun s q r e => by
  rw [h.f] at e
  split at e
  · obtain ⟨_, _, j, hj, rfl⟩ := keyF_some e
    have := recOk_len (hl j hj).1; omega
  · cases e
def offAdd (Off : Int → Int → Bool) (r : Rec) (s q : Int) : Bool := Off s q || decide (s = r.st ∧ q = r.q)
theorem BI.offN {l : List Rec} (hl : LogP l) {Off : Int → Int → Bool} {B : Buf} (h : BI l Off B) (hlen : l.length ≤ 40) {j : Nat} (hj : j < l.length) : offN B l[j] = if l[j].q ≤ atV B.out l[j].st ∨ Off l[j].st l[j].q = true then 1 else 0 := by
  unfold Go.Proofs.Ytnneebdcaefgoaa.offN
  rw [if_neg (fun z => z (hl j hj).1), h.f]
  by_cases h1 : l[j].q ≤ atV B.out l[j].st
  · rw [if_pos (.inr h1), if_pos (.inl h1)]
  · by_cases h2 : Off l[j].st l[j].q = true
    · have hsome : (if atV B.out l[j].st < l[j].q ∧ Off l[j].st l[j].q = true then keyF l l[j].st l[j].q else none).isSome = true := by
        rw [if_pos ⟨by omega, h2⟩, keyF_get l hl hj]; rfl
      rw [if_pos (.inl hsome), if_pos (.inr h2)]
    · have hA : ¬ ((if atV B.out l[j].st < l[j].q ∧ Off l[j].st l[j].q = true then keyF l l[j].st l[j].q else none).isSome = true ∨ l[j].q ≤ atV B.out l[j].st) := fun z => by
        rcases z with z | z
        · rw [if_neg (fun y => h2 y.2)] at z; cases z
        · exact h1 z
      have hB : ¬ (B.most ≤ B.n ∧ ¬ Due B.out l[j]) := fun z => by have := h.le; have := h.most; omega
      rw [if_neg hA, if_neg hB, if_neg (fun z => z.elim h1 h2)]
theorem BI.offer {l : List Rec} (hl : LogP l) {Off : Int → Int → Bool} {B : Buf} (h : BI l Off B) (hlen : l.length ≤ 40) {j : Nat} (hj : j < l.length) : BI l (offAdd Off l[j]) (offB B l[j]) := by
  have hn := h.offN hl hlen hj
  unfold offB
  by_cases h1 : l[j].q ≤ atV B.out l[j].st ∨ Off l[j].st l[j].q = true
  · rw [if_pos h1] at hn
    rw [if_neg (by rw [hn]; decide)]
    have same : ∀ s q, (atV B.out s < q ∧ offAdd Off l[j] s q = true) ↔ (atV B.out s < q ∧ Off s q = true) := fun s q => by
      unfold offAdd
      constructor
      · rintro ⟨a, b⟩
        refine ⟨a, ?_⟩
        rw [Bool.or_eq_true] at b
        rcases b with b | b
        · exact b
        · simp only [decide_eq_true_eq] at b
          obtain ⟨rfl, rfl⟩ := b
          rcases h1 with h1 | h1
          · omega
          · exact h1
      · rintro ⟨a, b⟩
        exact ⟨a, by rw [b]; rfl⟩
    refine ⟨h.most, fun s q => ?_, ?_, h.plain⟩
    · rw [h.f]
      by_cases e : atV B.out s < q ∧ Off s q = true
      · rw [if_pos e, if_pos ((same s q).2 e)]
      · rw [if_neg e, if_neg (fun z => e ((same s q).1 z))]
    · rw [h.n]
      refine List.countP_congr (fun r _ => ?_)
      have := same r.st r.q
      simp only [Bool.and_eq_true, decide_eq_true_eq]
      exact this.symm
  · rw [if_neg h1] at hn
    rw [if_pos hn]
    have h2 : ¬ l[j].q ≤ atV B.out l[j].st := fun z => h1 (.inl z)
    have h3 : Off l[j].st l[j].q = false := by cases z : Off l[j].st l[j].q with | false => rfl | true => exact absurd (.inr z) h1
    refine ⟨h.most, fun s q => ?_, ?_, h.plain⟩
    · rw [putB_f]
      show _ = if atV B.out s < q ∧ offAdd Off l[j] s q = true then keyF l s q else none
      by_cases e : s = l[j].st ∧ q = l[j].q
      · obtain ⟨rfl, rfl⟩ := e
        rw [if_pos ⟨rfl, rfl⟩, if_pos ⟨by omega, by simp [offAdd]⟩, keyF_get l hl hj]
      · rw [if_neg e, h.f]
        have e2 : offAdd Off l[j] s q = Off s q := by simp [offAdd, e]
        rw [e2]
    · show B.n + 1 = _
      rw [h.n]
      refine (count_one l j hj (fun i hi hne => ?_) ?_ ?_).symm
      · have e : ¬ (l[i].st = l[j].st ∧ l[i].q = l[j].q) := fun z => hne (key_uniq l hl hi hj z.1 z.2)
        have e2 : offAdd Off l[j] l[i].st l[i].q = Off l[i].st l[i].q := by simp [offAdd, e]
        show _ = (decide (atV B.out l[i].st < l[i].q) && offAdd Off l[j] l[i].st l[i].q)
        rw [e2]
      · rw [h3]; simp
      · show (decide (atV B.out l[j].st < l[j].q) && offAdd Off l[j] l[j].st l[j].q) = true
        simp [offAdd]; omega
theorem BI.take {l : List Rec} (hl : LogP l) {Off : Int → Int → Bool} {B : Buf} (h : BI l Off B) {k : Nat} (hk : k < 8) {r : Rec} (hn : nextOf B k = some r) :
    BI l Off (takeB B k r) ∧ (takeB B k r).n + 1 = B.n ∧ (∃ (j : Nat) (hj : j < l.length), l[j] = r ∧ r.st = k ∧ r.q = atV B.out k + 1 ∧ Off r.st r.q = true) ∧ Cov B.out r.d := by
  obtain ⟨h1, h2⟩ := next_some hn
  have h1' := h1
  rw [h.f] at h1
  split at h1
  case isFalse => cases h1
  rename_i hc
  obtain ⟨e1, e2, j, hj, e3⟩ := keyF_some h1
  subst e3
  have hr := recOk_rng (hl j hj).1
  have hat : ∀ s : Nat, s < 8 → atV (takeB B k l[j]).out s = if s = k then l[j].q else atV B.out s := fun s hs => by
    show atV (withV B.out k l[j].q) s = _
    rw [atV_with _ _ _ hs, clN_id ⟨by omega, hr.2.2⟩]
  have hcnt : B.n = (l.countP fun r => decide (atV (takeB B k l[j]).out r.st < r.q) && Off r.st r.q) + 1 := by
    rw [h.n]
    refine count_one l j hj (fun i hi hne => ?_) ?_ ?_
    · have hri := recOk_rng (hl i hi).1
      obtain ⟨s, hs⟩ := Int.eq_ofNat_of_zero_le hri.1.1
      rw [hs, hat s (by omega)]
      by_cases hsk : s = k
      · have hne2 : l[i].q ≠ l[j].q := fun z => hne (key_uniq l hl hi hj (by rw [hs, e1, hsk]) z)
        subst hsk
        rw [if_pos rfl]
        have e9 : decide (l[j].q < l[i].q) = decide (atV B.out s < l[i].q) := decide_eq_decide.2 ⟨fun _ => by omega, fun _ => by omega⟩
        rw [e9]
      · rw [if_neg hsk]
    · rw [e1, hat k hk, if_pos rfl]; simp
    · rw [e1, e2]; simp [hc.2]; omega
  have hp : plainV (takeB B k l[j]).out = (takeB B k l[j]).out := plain_with _ _ _
  refine ⟨⟨h.most, fun s q => ?_, ?_, hp⟩, ?_, ⟨j, hj, rfl, e1, e2, by rw [e1, e2]; exact hc.2⟩, h2.2⟩
  · show (if s = (k : Int) ∧ q = l[j].q then none else B.f s q) = _
    by_cases e : s = (k : Int) ∧ q = l[j].q
    · obtain ⟨rfl, rfl⟩ := e
      rw [if_pos ⟨rfl, rfl⟩, if_neg]
      rw [hat k hk, if_pos rfl]; omega
    · rw [if_neg e, h.f]
      by_cases hs : 0 ≤ s ∧ s < 8
      · obtain ⟨s', hs'⟩ := Int.eq_ofNat_of_zero_le hs.1
        rw [hs', hat s' (by omega)]
        by_cases hsk : s' = k
        · rw [if_pos hsk, hsk]
          by_cases hq : atV B.out k < q ∧ Off k q = true
          · rw [if_pos hq, if_pos ⟨by have : q ≠ l[j].q := fun z => e ⟨by rw [hs', hsk], z⟩; omega, hq.2⟩]
          · rw [if_neg hq, if_neg (fun z => hq ⟨by omega, z.2⟩)]
        · rw [if_neg hsk]
      · have e0 : ∀ v : List Int, atV v s = 0 := fun v => by unfold atV; rw [if_neg hs]
        rw [e0, e0]
  · show B.n - 1 = _
    omega
  · show B.n - 1 + 1 = B.n
    omega
/-- What is due comes. -/
theorem BI.next {l : List Rec} (hl : LogP l) {Off : Int → Int → Bool} {B : Buf} (h : BI l Off B) {m : Nat} (hm : m < l.length) (hoff : Off l[m].st l[m].q = true) (hlt : atV B.out l[m].st < l[m].q) (hall : ∀ j (hj : j < l.length), j < m → l[j].q ≤ atV B.out l[j].st) :
    ∃ s : Nat, s < 8 ∧ nextOf B s ≠ none := by
  obtain ⟨g1, g2, g3⟩ := hl m hm
  have hr := recOk_rng g1
  obtain ⟨s, hs⟩ := Int.eq_ofNat_of_zero_le hr.1.1
  have hcov : ∀ i : Nat, i < 8 → atV (knowV (l.take m)) i ≤ atV B.out i := by
    have key : ∀ n, n ≤ m → ∀ i : Nat, i < 8 → atV (knowV (l.take n)) i ≤ atV B.out i := by
      intro n
      induction n with
      | zero => intro _ i hi; rw [List.take_zero]; show atV [] i ≤ _; rw [atV_in _ hi, at8_nil]; exact (atV_nn _ _).1
      | succ n ih =>
        intro hn i hi
        have hnl : n < l.length := by omega
        have e2 : l.take (n + 1) = l.take n ++ [l[n]] := List.take_succ_eq_append_getElem hnl
        have hrn := recOk_rng (hl n hnl).1
        obtain ⟨t, ht⟩ := Int.eq_ofNat_of_zero_le hrn.1.1
        rw [e2, knowV_snoc, ht, atV_with _ _ _ hi]
        by_cases hit : i = t
        · rw [if_pos hit, clN_id ⟨by omega, hrn.2.2⟩, hit, ← ht]; exact hall n hnl (by omega)
        · rw [if_neg hit]; exact ih (by omega) i hi
    exact key m (Nat.le_refl _)
  have h5 := hcov s (by omega)
  rw [← hs] at h5
  have hq : l[m].q = atV B.out l[m].st + 1 := by omega
  refine ⟨s, by omega, ?_⟩
  unfold nextOf
  rw [← hs, ← hq, h.f, if_pos ⟨hlt, hoff⟩, keyF_get l hl hm]
  have hdue : Due B.out l[m] := ⟨hq, fun i hi => Int.le_trans (g3 i hi) (by rw [← atV_in _ hi, ← atV_in _ hi]; exact hcov i hi)⟩
  simp only [if_pos hdue]
  exact fun z => by cases z
end Go.Proofs.Ytnneebdcaefgoaa

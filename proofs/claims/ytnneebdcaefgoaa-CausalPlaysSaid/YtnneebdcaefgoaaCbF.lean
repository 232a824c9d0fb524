/- CausalHolds: what stays of a buffer, plain. -/
import Derived.Test.YtnneebdcaefgoaaCbE
namespace Go.Proofs.Ytnneebdcaefgoaa
open Go.RowKit Go.Maps

def fst1 (B : Buf) (s : Nat) : Nat := if (B.f s (atV B.out s + 1)).isSome = true then 1 else 0
def cnt (B : Buf) : Nat := fst1 B 0 + fst1 B 1 + fst1 B 2 + fst1 B 3 + fst1 B 4 + fst1 B 5 + fst1 B 6 + fst1 B 7
theorem fst1_le (B : Buf) (s : Nat) : fst1 B s ≤ 1 := by unfold fst1; split <;> omega
theorem cnt_le (B : Buf) : cnt B ≤ 8 := by
  have := fst1_le B 0; have := fst1_le B 1; have := fst1_le B 2; have := fst1_le B 3; have := fst1_le B 4; have := fst1_le B 5; have := fst1_le B 6; have := fst1_le B 7
  unfold cnt; omega
theorem cnt_sum {B B' : Buf} {s0 : Nat} (h0 : s0 < 8) (h : ∀ s, s < 8 → s ≠ s0 → fst1 B s ≤ fst1 B' s) : cnt B + fst1 B' s0 ≤ cnt B' + fst1 B s0 := by
  have e : ∀ s, s < 8 → s = s0 ∨ fst1 B s ≤ fst1 B' s := fun s hs => by
    by_cases e : s = s0
    · exact .inl e
    · exact .inr (h s hs e)
  have a0 := e 0 (by omega); have a1 := e 1 (by omega); have a2 := e 2 (by omega); have a3 := e 3 (by omega); have a4 := e 4 (by omega); have a5 := e 5 (by omega); have a6 := e 6 (by omega); have a7 := e 7 (by omega)
  unfold cnt
  match s0, h0 with
  | 0, _ => omega
  | 1, _ => omega
  | 2, _ => omega
  | 3, _ => omega
  | 4, _ => omega
  | 5, _ => omega
  | 6, _ => omega
  | 7, _ => omega
structure Inv (B : Buf) : Prop where
  own : Own B
  ok : ∀ s q r, B.f s q = some r → RecOk r
  out : B.out.length ≤ 8
  most0 : 0 ≤ B.most
  most : B.most ≤ 400
  n : (B.n : Int) ≤ B.most + cnt B
theorem recOk_len {r : Rec} (h : RecOk r) : r.d.length ≤ 8 := by
  have h1 : r.d = plainV r.d := h.1.2.2.1
  rw [h1]; exact plainV_le _
theorem Inv.k {B : Buf} (h : Inv B) : ∀ s q r, B.f s q = some r → r.d.length ≤ 1000000 := fun s q r e => by have := recOk_len (h.ok s q r e); omega
theorem Inv.q {B : Buf} (h : Inv B) : ∀ s q, (B.f s q).isSome = true → q ≤ topN := fun s q e => by
  obtain ⟨r, hr⟩ := Option.isSome_iff_exists.1 e
  have := (h.own s q r hr).2
  have := (recOk_rng (h.ok s q r hr)).2.2
  omega
theorem Inv.n' {B : Buf} (h : Inv B) : B.n ≤ 1000000 := by have := h.n; have := cnt_le B; have := h.most; omega
theorem off0 {B : Buf} {r : Rec} (h : offN B r = 0) : RecOk r ∧ B.f r.st r.q = none ∧ atV B.out r.st < r.q ∧ ((B.n : Int) < B.most ∨ Due B.out r) := by
  unfold offN at h
  by_cases h1 : RecOk r
  · rw [if_neg (fun z => z h1)] at h
    by_cases h2 : (B.f r.st r.q).isSome = true ∨ r.q ≤ atV B.out r.st
    · rw [if_pos h2] at h; omega
    · rw [if_neg h2] at h
      by_cases h3 : B.most ≤ B.n ∧ ¬ Due B.out r
      · rw [if_pos h3] at h; omega
      · refine ⟨h1, ?_, by omega, ?_⟩
        · cases hf : B.f r.st r.q with
          | none => rfl
          | some x => exact absurd (.inl (by rw [hf]; rfl)) h2
        · by_cases h4 : Due B.out r
          · exact .inr h4
          · left; by_cases h5 : B.most ≤ B.n
            · exact absurd ⟨h5, h4⟩ h3
            · omega
  · rw [if_pos h1] at h; omega
theorem off_cases (B : Buf) (r : Rec) : offN B r = 0 ∨ (1 ≤ offN B r ∧ offN B r ≤ 3) := by
  unfold offN
  split
  · right; omega
  · split
    · right; omega
    · split
      · right; omega
      · left; rfl
theorem putB_f (B : Buf) (r : Rec) (s q : Int) : (putB B r).f s q = if s = r.st ∧ q = r.q then some r else B.f s q := rfl
theorem Inv.put {B : Buf} (h : Inv B) {r : Rec} (h0 : offN B r = 0) : Inv (putB B r) := by
  obtain ⟨h1, h2, h3, h4⟩ := off0 h0
  have hr := recOk_rng h1
  have hle : ∀ s : Nat, fst1 B s ≤ fst1 (putB B r) s := fun s => by
    unfold fst1
    rw [putB_f]
    show _ ≤ if (if (s : Int) = r.st ∧ atV B.out s + 1 = r.q then some r else B.f s (atV B.out s + 1)).isSome = true then 1 else 0
    by_cases e : (s : Int) = r.st ∧ atV B.out s + 1 = r.q
    · rw [if_pos e, if_pos (show (some r).isSome = true from rfl)]; split <;> omega
    · rw [if_neg e]; exact Nat.le_refl _
  refine ⟨put_own h.own, fun s q r' e => ?_, h.out, h.most0, h.most, ?_⟩
  · rw [putB_f] at e
    split at e
    · injection e with e; rw [← e]; exact h1
    · exact h.ok s q r' e
  · show ((B.n + 1 : Nat) : Int) ≤ B.most + cnt (putB B r)
    rcases h4 with h4 | h4
    · omega
    · obtain ⟨m, hm⟩ := Int.eq_ofNat_of_zero_le hr.1.1
      have hq : r.q = atV B.out m + 1 := by rw [← hm]; exact h4.1
      have := cnt_sum (B := B) (B' := putB B r) (s0 := m) (by omega) (fun s _ _ => hle s)
      have e1 : fst1 B m = 0 := by
        unfold fst1
        rw [if_neg]
        rw [← hq, ← hm, h2]; simp
      have e2 : fst1 (putB B r) m = 1 := by
        unfold fst1
        rw [if_pos]
        rw [putB_f]
        show (if (m : Int) = r.st ∧ atV B.out m + 1 = r.q then some r else B.f m (atV B.out m + 1)).isSome = true
        rw [if_pos ⟨hm.symm, hq.symm⟩]; rfl
      have := h.n
      omega
theorem next_some {B : Buf} {s : Int} {r : Rec} (h : nextOf B s = some r) : B.f s (atV B.out s + 1) = some r ∧ Due B.out r := by
  unfold nextOf at h
  split at h
  · rename_i x hx
    split at h
    · rename_i hd; injection h with h; rw [← h]; exact ⟨hx, hd⟩
    · cases h
  · cases h
theorem atV_with (l : List Int) (k : Nat) (n : Int) {s : Nat} (hs : s < 8) : atV (withV l k n) s = if s = k then clN n else atV l s := by
  rw [atV_in _ hs, at8_with l k n hs]
  unfold withF
  by_cases e : s = k
  · rw [if_pos (by omega), if_pos e]
  · rw [if_neg (by omega), if_neg e, atV_in _ hs]
theorem Inv.take {B : Buf} (h : Inv B) {k : Nat} (hk : k < 8) {r : Rec} (hn : nextOf B k = some r) : Inv (takeB B k r) := by
  obtain ⟨h1, h2⟩ := next_some hn
  have hq := (h.own _ _ _ h1).2
  have e1 : fst1 B k = 1 := by unfold fst1; rw [if_pos (by rw [h1]; rfl)]
  have := cnt_sum (B := B) (B' := takeB B k r) (s0 := k) hk (fun s hs hne => by
    unfold fst1
    have e : atV (takeB B k r).out s = atV B.out s := by
      show atV (withV B.out k r.q) s = _
      rw [atV_with _ _ _ hs, if_neg hne]
    rw [e]
    show _ ≤ if (if (s : Int) = k ∧ atV B.out s + 1 = r.q then none else B.f s (atV B.out s + 1)).isSome = true then 1 else 0
    have e3 : (if (s : Int) = k ∧ atV B.out s + 1 = r.q then none else B.f s (atV B.out s + 1)) = B.f s (atV B.out s + 1) := if_neg (by omega)
    rw [e3]
    exact Nat.le_refl _)
  refine ⟨take_own h.own, fun s q r' e => h.ok s q r' (take_f e), withV_le _ _ _, h.most0, h.most, ?_⟩
  show ((B.n - 1 : Nat) : Int) ≤ B.most + cnt (takeB B k r)
  have := h.n
  have := h.most0
  omega
theorem roomOf_in (k : Int) (h0 : 0 ≤ k) (h1 : k ≤ 400) : roomOf k = k := by unfold roomOf mn mx; split <;> (try split) <;> omega
theorem Inv.new {k : Int} : Inv (bufNew k []) := by
  refine ⟨fun s q r e => (by cases e), fun s q r e => (by cases e), vecOf_le _, ?_, ?_, ?_⟩
  · show 0 ≤ roomOf k
    unfold roomOf mn mx; split <;> (try split) <;> omega
  · show roomOf k ≤ 400
    unfold roomOf mn mx; split <;> (try split) <;> omega
  · have : 0 ≤ roomOf k := by unfold roomOf mn mx; split <;> (try split) <;> omega
    show ((0 : Nat) : Int) ≤ roomOf k + _
    omega
end Go.Proofs.Ytnneebdcaefgoaa

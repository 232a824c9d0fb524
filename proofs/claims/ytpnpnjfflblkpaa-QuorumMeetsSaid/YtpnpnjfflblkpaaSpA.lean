/- Points put in order, the later one of two for one place: plain law. -/
import Derived.Test.YtpnpnjfflblkpaaStB
namespace Go.Proofs.Ytpnpnjfflblkpaa
open Go.RowKit Go.Sort

/-- The later one of two. -/
def bt (a b : Pt) : Pt := if newT b a then b else a
/-- Strictly in order. -/
def StrB (l : List Pt) : Prop := l.Pairwise bef
def putAt (l : List Pt) (p : Pt) : Nat := (l.takeWhile fun q => decide (bef q p)).length
def putE : List Pt → Pt → List Pt
  | [], p => [p]
  | q :: r, p => if q.s = p.s ∧ q.t = p.t then bt q p :: r else p :: q :: r
/-- One point put among sorted ones. -/
def putP (l : List Pt) (p : Pt) : List Pt := l.take (putAt l p) ++ putE (l.drop (putAt l p)) p
def sortP (l : List Pt) : List Pt := l.foldl putP []
def best : List Pt → List Pt
  | [] => []
  | x :: r => [r.foldl bt x]
theorem bt_at (a b : Pt) (h : a.s = b.s ∧ a.t = b.t) : (bt a b).s = a.s ∧ (bt a b).t = a.t := by
  unfold bt; split
  · exact ⟨h.1.symm, h.2.symm⟩
  · exact ⟨rfl, rfl⟩
theorem putAt_le (l : List Pt) (p : Pt) : putAt l p ≤ l.length := (List.takeWhile_sublist _).length_le
theorem putAt_lt {p : Pt} : ∀ {l : List Pt} {j : Nat} (hj : j < l.length), j < putAt l p → bef l[j] p
  | [], _, hj, _ => by simp at hj
  | y :: r, 0, _, hl => by
    unfold putAt at hl
    by_cases h : bef y p
    · exact h
    · rw [List.takeWhile_cons_of_neg (by simpa using h)] at hl; simp at hl
  | y :: r, j + 1, hj, hl => by
    unfold putAt at hl
    by_cases h : bef y p
    · rw [List.takeWhile_cons_of_pos (by simpa using h)] at hl
      exact putAt_lt (l := r) (by simpa using hj) (by simpa [putAt] using hl)
    · rw [List.takeWhile_cons_of_neg (by simpa using h)] at hl; simp at hl
theorem putAt_stop {p : Pt} : ∀ {l : List Pt} (h : putAt l p < l.length), ¬ bef l[putAt l p] p
  | [], h => by simp at h
  | y :: r, h => by
    by_cases hy : bef y p
    · have e : putAt (y :: r) p = putAt r p + 1 := by unfold putAt; rw [List.takeWhile_cons_of_pos (by simpa using hy)]; rfl
      have h' : putAt r p < r.length := by rw [e] at h; simpa using h
      have := putAt_stop (p := p) h'
      intro hle; apply this
      simpa [e] using hle
    · have e : putAt (y :: r) p = 0 := by unfold putAt; rw [List.takeWhile_cons_of_neg (by simpa using hy)]; rfl
      intro hle; apply hy
      simpa [e] using hle
theorem putAt_is {l : List Pt} {p : Pt} {k : Nat} (hk : k ≤ l.length) (h1 : ∀ j (hj : j < l.length), j < k → bef l[j] p) (h2 : ∀ h : k < l.length, ¬ bef l[k] p) : putAt l p = k := by
  rcases Nat.lt_trichotomy (putAt l p) k with h | h | h
  · exact absurd (h1 _ (by omega) h) (putAt_stop (by omega))
  · exact h
  · exact absurd (putAt_lt (by have := putAt_le l p; omega) h) (h2 (by have := putAt_le l p; omega))
/-- A list parts where a point is to be put. -/
theorem put_parts {l : List Pt} (hl : StrB l) (p : Pt) : ∃ A B, l = A ++ B ∧ (∀ a ∈ A, bef a p) ∧ ((putP l p = A ++ [p] ++ B ∧ ∀ b ∈ B, bef p b) ∨ ∃ q r, B = q :: r ∧ (q.s = p.s ∧ q.t = p.t) ∧ putP l p = A ++ [bt q p] ++ r ∧ ∀ b ∈ r, bef p b) := by
  refine ⟨l.take (putAt l p), l.drop (putAt l p), (List.take_append_drop _ _).symm, fun a ha => ?_, ?_⟩
  · obtain ⟨j, hj, rfl⟩ := List.getElem_of_mem ha
    rw [List.length_take] at hj
    rw [List.getElem_take]
    exact putAt_lt (by omega) (by omega)
  · unfold putP
    cases hd : l.drop (putAt l p) with
    | nil => exact .inl ⟨by simp [putE], by simp⟩
    | cons q r =>
      have hlt : putAt l p < l.length := by
        rcases Nat.lt_or_ge (putAt l p) l.length with h | h
        · exact h
        · rw [List.drop_eq_nil_of_le h] at hd; cases hd
      have eq : q = l[putAt l p] := by
        rw [List.drop_eq_getElem_cons hlt] at hd
        exact (List.cons.inj hd).1.symm
      have hq : leB p q := by have := putAt_stop hlt; rw [← eq] at this; exact this
      have hqr : ∀ b ∈ r, bef q b := by
        have h1 : StrB (l.drop (putAt l p)) := List.Pairwise.sublist (List.drop_sublist _ _) hl
        rw [hd] at h1
        exact (List.pairwise_cons.1 h1).1
      by_cases h : q.s = p.s ∧ q.t = p.t
      · exact .inr ⟨q, r, rfl, h, by simp [putE, h], fun b hb => at_bef ⟨h.1.symm, h.2.symm⟩ (hqr b hb)⟩
      · have hpq : bef p q := (leB_cases hq).resolve_right (fun e => h ⟨e.1.symm, e.2.symm⟩)
        refine .inl ⟨by simp [putE, h], fun b hb => ?_⟩
        rcases List.mem_cons.1 hb with rfl | hb
        · exact hpq
        · exact bef_trans hpq (hqr b hb)
theorem putP_str {l : List Pt} (hl : StrB l) (p : Pt) : StrB (putP l p) := by
  obtain ⟨A, B, rfl, hA, ⟨e, hB⟩ | ⟨q, r, rfl, hq, e, hr⟩⟩ := put_parts hl p
  · rw [e]
    have hp := List.pairwise_append.1 hl
    refine List.pairwise_append.2 ⟨List.pairwise_append.2 ⟨hp.1, List.pairwise_singleton _ _, fun a ha b hb => by rw [List.mem_singleton.1 hb]; exact hA a ha⟩, hp.2.1, fun a ha b hb => ?_⟩
    rcases List.mem_append.1 ha with ha | ha
    · exact hp.2.2 a ha b hb
    · rw [List.mem_singleton.1 ha]; exact hB b hb
  · rw [e]
    have hb := bt_at q p hq
    have hp := List.pairwise_append.1 hl
    refine List.pairwise_append.2 ⟨List.pairwise_append.2 ⟨hp.1, List.pairwise_singleton _ _, fun a ha b hb2 => ?_⟩, (List.pairwise_cons.1 hp.2.1).2, fun a ha b hb2 => ?_⟩
    · rw [List.mem_singleton.1 hb2]; exact bef_at (hA a ha) ⟨(hb.1.trans hq.1).symm, (hb.2.trans hq.2).symm⟩
    · rcases List.mem_append.1 ha with ha | ha
      · exact hp.2.2 a ha b (List.mem_cons_of_mem _ hb2)
      · rw [List.mem_singleton.1 ha]; exact at_bef ⟨hb.1.trans hq.1, hb.2.trans hq.2⟩ (hr b hb2)
theorem atK_one (s : ByteArray) (t : Int) (p : Pt) : atK s t [p] = if p.s = s ∧ p.t = t then [p] else [] := by unfold atK; by_cases h : p.s = s ∧ p.t = t <;> simp [h]
theorem putP_at {l : List Pt} (hl : StrB l) (p : Pt) (s : ByteArray) (t : Int) : atK s t (putP l p) = if p.s = s ∧ p.t = t then (match atK s t l with | [] => [p] | q :: _ => [bt q p]) else atK s t l := by
  obtain ⟨A, B, rfl, hA, ⟨e, hB⟩ | ⟨q, r, rfl, hq, e, hr⟩⟩ := put_parts hl p
  · rw [e, atK_app, atK_app, atK_app, atK_one]
    by_cases h : p.s = s ∧ p.t = t
    · have e1 : atK s t A = [] := atK_nil fun a ha z => bef_ne (hA a ha) ⟨z.1.trans h.1.symm, z.2.trans h.2.symm⟩
      have e2 : atK s t B = [] := atK_nil fun b hb z => bef_ne (hB b hb) ⟨h.1.trans z.1.symm, h.2.trans z.2.symm⟩
      simp [h, e1, e2]
    · simp [h]
  · have hb := bt_at q p hq
    rw [e, atK_app, atK_app, atK_app, atK_one, show q :: r = [q] ++ r from rfl, atK_app, atK_one]
    by_cases h : p.s = s ∧ p.t = t
    · have e1 : atK s t A = [] := atK_nil fun a ha z => bef_ne (hA a ha) ⟨z.1.trans h.1.symm, z.2.trans h.2.symm⟩
      have e2 : atK s t r = [] := atK_nil fun b hb z => bef_ne (hr b hb) ⟨h.1.trans z.1.symm, h.2.trans z.2.symm⟩
      have h1 : (bt q p).s = s ∧ (bt q p).t = t := ⟨hb.1.trans (hq.1.trans h.1), hb.2.trans (hq.2.trans h.2)⟩
      have h2 : q.s = s ∧ q.t = t := ⟨hq.1.trans h.1, hq.2.trans h.2⟩
      simp [h, e1, e2, h1, h2]
    · have h1 : ¬ ((bt q p).s = s ∧ (bt q p).t = t) := fun z => h ⟨(hq.1.symm.trans hb.1.symm).trans z.1, (hq.2.symm.trans hb.2.symm).trans z.2⟩
      have h2 : ¬ (q.s = s ∧ q.t = t) := fun z => h ⟨hq.1.symm.trans z.1, hq.2.symm.trans z.2⟩
      simp [h, h1, h2]
theorem sort_at : ∀ (l acc : List Pt), StrB acc → StrB (l.foldl putP acc) ∧ ∀ s t, atK s t (l.foldl putP acc) = best (atK s t acc ++ atK s t l) ∨ (∃ x y r, atK s t acc = x :: y :: r)
  | [], acc, h => ⟨h, fun s t => by
    cases e : atK s t acc with
    | nil => exact .inl (by show atK s t acc = _; rw [e]; rfl)
    | cons x r =>
      cases r with
      | nil => exact .inl (by show atK s t acc = _; rw [e]; rfl)
      | cons y r => exact .inr ⟨x, y, r, rfl⟩⟩
  | p :: l, acc, h => by
    obtain ⟨h1, h2⟩ := sort_at l (putP acc p) (putP_str h p)
    refine ⟨h1, fun s t => ?_⟩
    have ha := putP_at h p s t
    have hc : atK s t (p :: l) = atK s t [p] ++ atK s t l := by rw [← atK_app]; rfl
    rw [List.foldl_cons, hc, atK_one]
    by_cases hp : p.s = s ∧ p.t = t
    · rw [if_pos hp] at ha
      rw [if_pos hp]
      cases e : atK s t acc with
      | nil =>
        rw [e] at ha
        have ha' : atK s t (putP acc p) = [p] := ha
        refine .inl ?_
        rcases h2 s t with h3 | ⟨x, y, r, h3⟩
        · rw [h3, ha']; simp
        · rw [ha'] at h3; cases h3
      | cons q r =>
        rw [e] at ha
        have ha' : atK s t (putP acc p) = [bt q p] := ha
        cases r with
        | cons y r => exact .inr ⟨q, y, r, rfl⟩
        | nil =>
          refine .inl ?_
          rcases h2 s t with h3 | ⟨x, y, r, h3⟩
          · rw [h3, ha']; simp [best]
          · rw [ha'] at h3; cases h3
    · rw [if_neg hp] at ha
      rw [if_neg hp, List.nil_append, ← ha]
      exact h2 s t
theorem sortP_str (l : List Pt) : StrB (sortP l) := (sort_at l [] List.Pairwise.nil).1
theorem sortP_at (l : List Pt) (s : ByteArray) (t : Int) : atK s t (sortP l) = best (atK s t l) := by
  rcases (sort_at l [] List.Pairwise.nil).2 s t with h | ⟨x, y, r, h⟩
  · exact h
  · cases h
theorem mem_atK {l : List Pt} {x : Pt} : x ∈ l ↔ x ∈ atK x.s x.t l := by unfold atK; rw [List.mem_filter]; simp
theorem str_ext : ∀ {a b : List Pt}, StrB a → StrB b → (∀ s t, atK s t a = atK s t b) → a = b
  | [], [], _, _, _ => rfl
  | [], y :: b, _, _, h => by
    have := mem_atK.1 (List.mem_cons_self (a := y) (l := b))
    rw [← h] at this; cases this
  | x :: a, [], _, _, h => by
    have := mem_atK.1 (List.mem_cons_self (a := x) (l := a))
    rw [h] at this; cases this
  | x :: a, y :: b, ha, hb, h => by
    have hx : x ∈ y :: b := by
      have := mem_atK.1 (List.mem_cons_self (a := x) (l := a)); rw [h] at this; exact mem_atK.2 this
    have hy : y ∈ x :: a := by
      have := mem_atK.1 (List.mem_cons_self (a := y) (l := b)); rw [← h] at this; exact mem_atK.2 this
    have hxy : x = y := by
      rcases List.mem_cons.1 hx with e | m1
      · exact e
      · rcases List.mem_cons.1 hy with e | m2
        · exact e.symm
        · exact absurd ((List.pairwise_cons.1 ha).1 y m2) (bef_asymm ((List.pairwise_cons.1 hb).1 x m1))
    subst hxy
    have : a = b := str_ext (List.pairwise_cons.1 ha).2 (List.pairwise_cons.1 hb).2 fun s t => by
      have e := h s t
      rw [show x :: a = [x] ++ a from rfl, show x :: b = [x] ++ b from rfl, atK_app, atK_app] at e
      exact List.append_cancel_left e
    rw [this]
theorem sortP_eq {l R : List Pt} (hR : StrB R) (h : ∀ s t, atK s t R = best (atK s t l)) : sortP l = R := str_ext (sortP_str l) hR fun s t => (sortP_at l s t).trans (h s t).symm
theorem sortP_congr {l l' : List Pt} (h : ∀ s t, atK s t l = atK s t l') : sortP l = sortP l' := sortP_eq (sortP_str l') fun s t => by rw [sortP_at, h]
theorem best_mem {x : Pt} : ∀ {l : List Pt}, x ∈ best l → x ∈ l
  | [], h => h
  | y :: r, h => by
    have : ∀ (r : List Pt) (y : Pt), r.foldl bt y = y ∨ r.foldl bt y ∈ r := by
      intro r
      induction r with
      | nil => intro y; exact .inl rfl
      | cons z r ih =>
        intro y
        rw [List.foldl_cons]
        rcases ih (bt y z) with e | e
        · rw [e]; unfold bt; split
          · exact .inr (List.mem_cons_self ..)
          · exact .inl rfl
        · exact .inr (List.mem_cons_of_mem _ e)
    rw [List.mem_singleton.1 h]
    rcases this r y with e | e
    · rw [e]; exact List.mem_cons_self ..
    · exact List.mem_cons_of_mem _ e
theorem sortP_mem {l : List Pt} {x : Pt} (h : x ∈ sortP l) : x ∈ l := by
  have := mem_atK.1 h
  rw [sortP_at] at this
  exact mem_atK.2 (best_mem this)
theorem putP_len (l : List Pt) (p : Pt) : (putP l p).length ≤ l.length + 1 := by
  unfold putP
  rw [List.length_append, List.length_take]
  have h := putAt_le l p
  have e : (putE (l.drop (putAt l p)) p).length ≤ (l.drop (putAt l p)).length + 1 := by
    cases l.drop (putAt l p) with
    | nil => simp [putE]
    | cons q r =>
      by_cases h : q.s = p.s ∧ q.t = p.t
      · simp [putE, h]
      · simp [putE, h]
  rw [List.length_drop] at e
  omega
theorem sortP_snoc (l : List Pt) (p : Pt) : sortP (l ++ [p]) = putP (sortP l) p := by unfold sortP; rw [List.foldl_append]; rfl
theorem sortP_len : ∀ (l : List Pt), (sortP l).length ≤ l.length := fun l => by
  have : ∀ (n : Nat) (l : List Pt), l.length = n → (sortP l).length ≤ l.length := by
    intro n
    induction n with
    | zero => intro l h; rw [List.eq_nil_of_length_eq_zero h]; exact Nat.le_refl _
    | succ n ih =>
      intro l h
      obtain ⟨Q, q, rfl⟩ : ∃ Q q, l = Q ++ [q] := ⟨l.dropLast, l.getLast (by intro e; rw [e] at h; simp at h), (List.dropLast_concat_getLast _).symm⟩
      rw [sortP_snoc]
      have := ih Q (by simpa using h)
      have := putP_len (sortP Q) q
      simp; omega
  exact this _ l rfl
theorem sortP_id {l : List Pt} (h : StrB l) : sortP l = l := sortP_eq h fun s t => by
  cases e : atK s t l with
  | nil => rfl
  | cons x r =>
    cases r with
    | nil => rfl
    | cons y r =>
      exfalso
      have h1 : (atK s t l).Pairwise bef := List.Pairwise.filter _ h
      rw [e] at h1
      have h2 := (List.pairwise_cons.1 h1).1 y (List.mem_cons_self ..)
      have hx : x ∈ atK s t l := by rw [e]; exact List.mem_cons_self ..
      have hy : y ∈ atK s t l := by rw [e]; exact List.mem_cons_of_mem _ (List.mem_cons_self ..)
      unfold atK at hx hy
      have hx := (List.mem_filter.1 hx).2
      have hy := (List.mem_filter.1 hy).2
      simp only [decide_eq_true_eq] at hx hy
      exact bef_ne h2 ⟨hx.1.trans hy.1.symm, hx.2.trans hy.2.symm⟩
/-- At the end of what is sorted. -/
theorem putP_end {Q : List Pt} {q p : Pt} (h : StrB (Q ++ [q])) : (bef q p → putP (Q ++ [q]) p = Q ++ [q] ++ [p]) ∧ ((q.s = p.s ∧ q.t = p.t) → putP (Q ++ [q]) p = Q ++ [bt q p]) := by
  have hQ := (List.pairwise_append.1 h).2.2
  constructor
  · intro hb
    have e : putAt (Q ++ [q]) p = (Q ++ [q]).length := putAt_is (Nat.le_refl _) (fun j hj _ => by
      have hm := List.getElem_mem hj
      rcases List.mem_append.1 hm with m | m
      · exact bef_trans (hQ _ m q (List.mem_singleton.2 rfl)) hb
      · rw [List.mem_singleton.1 m]; exact hb) (fun z => absurd z (Nat.lt_irrefl _))
    unfold putP
    rw [e, List.take_length, List.drop_length]
    rfl
  · intro he
    have e : putAt (Q ++ [q]) p = Q.length := putAt_is (by simp) (fun j hj hjq => by
      rw [List.getElem_append_left hjq]
      exact bef_at (hQ _ (List.getElem_mem hjq) q (List.mem_singleton.2 rfl)) he) (fun z => by
      rw [List.getElem_append_right (Nat.le_refl _)]
      simp
      intro z2; exact bef_ne z2 he)
    unfold putP
    rw [e, List.take_left, List.drop_left]
    simp [putE, he]
theorem putP_nil (p : Pt) : putP [] p = [p] := rfl
end Go.Proofs.Ytpnpnjfflblkpaa

/- The plain law of sets of times: lists of spans that rise with gaps, what is in them, how many. No walk here. -/
import Derived.Test.YtafdddakkenlaaaWinK
namespace Go.Proofs.Ytafdddakkenlaaa

def memS (l : List Sp) (t : Int) : Prop := ∃ x ∈ l, x.1 ≤ t ∧ t < x.2
def okP (x : Sp) : Prop := 0 ≤ x.1 ∧ x.1 < x.2 ∧ x.2 ≤ 1000
/-- Spans that rise, none beside another one. -/
def Norm (l : List Sp) : Prop := l.Pairwise (fun x y => x.2 < y.1) ∧ ∀ x ∈ l, okP x
/-- Spans that rise, some beside others. -/
def Chain (l : List Sp) : Prop := l.Pairwise (fun x y => x.2 ≤ y.1) ∧ ∀ x ∈ l, okP x

theorem memS_nil (t : Int) : ¬ memS [] t := fun ⟨x, hx, _⟩ => by cases hx
theorem memS_cons (x : Sp) (r : List Sp) (t : Int) : memS (x :: r) t ↔ (x.1 ≤ t ∧ t < x.2) ∨ memS r t := by
  unfold memS; simp
theorem memS_append (a b : List Sp) (t : Int) : memS (a ++ b) t ↔ memS a t ∨ memS b t := by
  unfold memS; simp only [List.mem_append]
  constructor
  · rintro ⟨x, h | h, h2⟩
    · exact .inl ⟨x, h, h2⟩
    · exact .inr ⟨x, h, h2⟩
  · rintro (⟨x, h, h2⟩ | ⟨x, h, h2⟩)
    · exact ⟨x, .inl h, h2⟩
    · exact ⟨x, .inr h, h2⟩
theorem memS_perm {a b : List Sp} (h : a.Perm b) (t : Int) : memS a t ↔ memS b t := by
  unfold memS
  exact ⟨fun ⟨x, hx, h2⟩ => ⟨x, h.mem_iff.1 hx, h2⟩, fun ⟨x, hx, h2⟩ => ⟨x, h.mem_iff.2 hx, h2⟩⟩
theorem memS_any (l : List Sp) (t : Int) : l.any (hasB t) = true ↔ memS l t := by
  unfold memS; simp [hasB]

theorem meets_iff {x s : Sp} (hx : vS x) (hs : vS s) : wMeets x s = true ↔ (x.1 < s.2 ∧ s.1 < x.2 ∧ x.1 < x.2 ∧ s.1 < s.2) := by
  obtain ⟨a, b⟩ := x
  obtain ⟨c, d⟩ := s
  unfold vS at hx hs
  have h1 : wCheck (a, b) = 0 := wCheck_0.2 hx
  have h2 : wCheck (c, d) = 0 := wCheck_0.2 hs
  simp only [wMeets, wBoth, h1, h2, true_and, mx_eq, mn_eq, decide_eq_true_eq]
  simp only at hx hs
  split <;> simp <;> omega
theorem okP.vS {x : Sp} (h : okP x) : vS x := by unfold okP at h; unfold Ytafdddakkenlaaa.vS; omega

theorem woS_mem {x s : Sp} (hx : okP x) (hs : vS s) (t : Int) : memS (woS s x) t ↔ (x.1 ≤ t ∧ t < x.2) ∧ ¬ (s.1 ≤ t ∧ t < s.2) := by
  have hm := meets_iff hx.vS hs
  unfold okP at hx; unfold vS at hs
  unfold woS
  cases h : wMeets x s
  · simp only [if_true, memS_cons]
    have : ¬ (x.1 < s.2 ∧ s.1 < x.2 ∧ x.1 < x.2 ∧ s.1 < s.2) := fun h2 => by rw [hm.2 h2] at h; cases h
    have hn := memS_nil t
    constructor
    · rintro (h1 | h1)
      · omega
      · exact absurd h1 hn
    · rintro ⟨h1, h2⟩; exact .inl h1
  · have h2 := hm.1 h
    simp only [Bool.true_eq_false, if_false, memS_append]
    have hn := memS_nil t
    constructor
    · rintro (h1 | h1)
      · split at h1
        · rw [memS_cons] at h1; rcases h1 with h1 | h1
          · simp only at h1; omega
          · exact absurd h1 hn
        · exact absurd h1 hn
      · split at h1
        · rw [memS_cons] at h1; rcases h1 with h1 | h1
          · simp only at h1; omega
          · exact absurd h1 hn
        · exact absurd h1 hn
    · rintro ⟨h1, h3⟩
      by_cases h4 : t < s.1
      · left; rw [if_pos (by omega), memS_cons]; left; simp only; omega
      · right; rw [if_pos (by omega), memS_cons]; left; simp only; omega
theorem woS_in {x s : Sp} (hx : okP x) (hs : vS s) : ∀ y ∈ woS s x, okP y ∧ x.1 ≤ y.1 ∧ y.2 ≤ x.2 ∧ (s.1 < s.2 → y.2 ≤ s.1 ∨ s.2 ≤ y.1) := by
  have hm := meets_iff hx.vS hs
  intro y hy
  unfold okP at *; unfold vS at hs
  unfold woS at hy
  cases h : wMeets x s
  · rw [h] at hy
    simp at hy; subst hy
    have : ¬ (y.1 < s.2 ∧ s.1 < y.2 ∧ y.1 < y.2 ∧ s.1 < s.2) := fun h2 => by rw [hm.2 h2] at h; cases h
    omega
  · have h2 := hm.1 h
    rw [h] at hy
    simp only [Bool.true_eq_false, if_false, List.mem_append] at hy
    rcases hy with hy | hy
    · split at hy
      · simp at hy; subst hy; simp only; omega
      · simp at hy
    · split at hy
      · simp at hy; subst hy; simp only; omega
      · simp at hy
theorem woS_norm {x s : Sp} (hx : okP x) (hs : vS s) : Norm (woS s x) := by
  refine ⟨?_, fun y hy => (woS_in hx hs y hy).1⟩
  have hm := meets_iff hx.vS hs
  unfold woS
  cases h : wMeets x s
  · simp
  · have h2 := hm.1 h
    simp only [Bool.true_eq_false, if_false]
    split <;> split <;> simp
    omega

theorem withoutS_mem {l : List Sp} {s : Sp} (hl : Norm l) (hs : vS s) (t : Int) : memS (withoutS l s) t ↔ memS l t ∧ ¬ (s.1 ≤ t ∧ t < s.2) := by
  obtain ⟨hp0, hl⟩ := hl
  clear hp0
  induction l with
  | nil => simp [withoutS, memS]
  | cons x r ih =>
    have e : withoutS (x :: r) s = woS s x ++ withoutS r s := by simp [withoutS]
    rw [e, memS_append, woS_mem (hl x (by simp)) hs, ih (fun y hy => hl y (by simp [hy])), memS_cons]
    constructor
    · rintro (⟨h1, h2⟩ | ⟨h1, h2⟩)
      · exact ⟨.inl h1, h2⟩
      · exact ⟨.inr h1, h2⟩
    · rintro ⟨h1 | h1, h2⟩
      · exact .inl ⟨h1, h2⟩
      · exact .inr ⟨h1, h2⟩
theorem withoutS_in {l : List Sp} {s : Sp} (hl : ∀ x ∈ l, okP x) (hs : vS s) : ∀ y ∈ withoutS l s, ∃ x ∈ l, okP y ∧ x.1 ≤ y.1 ∧ y.2 ≤ x.2 ∧ (s.1 < s.2 → y.2 ≤ s.1 ∨ s.2 ≤ y.1) := by
  intro y hy
  obtain ⟨x, hx, hy⟩ := List.mem_flatMap.1 hy
  exact ⟨x, hx, woS_in (hl x hx) hs y hy⟩
theorem withoutS_norm {l : List Sp} {s : Sp} (hl : Norm l) (hs : vS s) : Norm (withoutS l s) := by
  refine ⟨?_, fun y hy => by obtain ⟨x, _, h, _⟩ := withoutS_in hl.2 hs y hy; exact h⟩
  obtain ⟨hp, hl⟩ := hl
  induction l with
  | nil => simp [withoutS]
  | cons x r ih =>
    have e : withoutS (x :: r) s = woS s x ++ withoutS r s := by simp [withoutS]
    rw [List.pairwise_cons] at hp
    rw [e, List.pairwise_append]
    refine ⟨(woS_norm (hl x (by simp)) hs).1, ih hp.2 (fun y hy => hl y (by simp [hy])), ?_⟩
    intro a ha b hb
    obtain ⟨_, _, h3, _⟩ := woS_in (hl x (by simp)) hs a ha
    obtain ⟨z, hz, _, h5, _⟩ := withoutS_in (fun y hy => hl y (by simp [hy])) hs b hb
    have := hp.1 z hz
    omega

/-- What is put in order: no time twice. -/
theorem chain_of {l l' : List Sp} {s : Sp} (hl : Norm l) (hs : okP s) (hp : l'.Perm (withoutS l s ++ [s])) (hso : sortedS l') : Chain l' := by
  have hok : ∀ x ∈ l', okP x := by
    intro x hx
    have := hp.mem_iff.1 hx
    rw [List.mem_append] at this
    rcases this with h | h
    · exact (withoutS_norm hl hs.vS).2 x h
    · simp at h; subst h; exact hs
  refine ⟨?_, hok⟩
  have hd : (withoutS l s ++ [s]).Pairwise (fun x y => x.2 ≤ y.1 ∨ y.2 ≤ x.1) := by
    rw [List.pairwise_append]
    refine ⟨(withoutS_norm hl hs.vS).1.imp (fun h => .inl (by omega)), by simp, ?_⟩
    intro a ha b hb
    simp at hb; subst hb
    obtain ⟨x, hx, _, _, _, h5⟩ := withoutS_in hl.2 hs.vS a ha
    exact h5 hs.2.1
  have hd' : l'.Pairwise (fun x y => x.2 ≤ y.1 ∨ y.2 ≤ x.1) := (hp.pairwise_iff (fun h => h.symm)).2 hd
  have := hd'.and hso
  refine List.Pairwise.imp_of_mem ?_ this
  rintro a b ha hb ⟨h1, h2⟩
  have h3 := hok a ha
  have h4 := hok b hb
  unfold okP at *; omega

theorem mg_all (l : List Sp) : ∀ M : List Sp, Norm M → Chain l → (∀ x ∈ M, ∀ y ∈ l, x.2 ≤ y.1) → Norm (l.foldl mgStep M) ∧ ∀ t, memS (l.foldl mgStep M) t ↔ memS M t ∨ memS l t := by
  induction l with
  | nil => intro M hM _ _; exact ⟨hM, fun t => by simp [memS]⟩
  | cons s r ih =>
    intro M hM hc hb
    obtain ⟨hcp, hco⟩ := hc
    rw [List.pairwise_cons] at hcp
    have hs := hco s (by simp)
    have step : Norm (mgStep M s) ∧ (∀ t, memS (mgStep M s) t ↔ memS M t ∨ (s.1 ≤ t ∧ t < s.2)) ∧ ∀ x ∈ mgStep M s, x.2 ≤ s.2 := by
      rcases List.eq_nil_or_concat M with h | ⟨M0, y, h⟩
      · subst h
        refine ⟨⟨by simp [mgStep], by simp [mgStep]; exact hs⟩, fun t => ?_, by simp [mgStep]⟩
        simp [mgStep, memS]
      · obtain ⟨y1, y2⟩ := y
        obtain ⟨p, q⟩ := s
        subst h
        rw [mgStep_cat]
        rw [List.concat_eq_append] at *
        obtain ⟨hp, hok⟩ := hM
        have hp0 := hp
        rw [List.pairwise_append] at hp
        obtain ⟨hp1, _, hp2⟩ := hp
        have hy := hok (y1, y2) (by simp)
        have hyb := hb (y1, y2) (by simp) (p, q) (by simp)
        simp only at hyb
        unfold okP at hs hy
        simp only at hs hy
        split
        · rename_i he
          refine ⟨⟨?_, ?_⟩, fun t => ?_, ?_⟩
          · rw [List.pairwise_append]
            refine ⟨hp1, by simp, ?_⟩
            intro a ha b hb'
            simp at hb'; subst hb'
            exact hp2 a ha (y1, y2) (by simp)
          · intro x hx
            rw [List.mem_append] at hx
            rcases hx with hx | hx
            · exact hok x (by simp [hx])
            · simp at hx; subst hx; unfold okP; simp only; omega
          · simp only [memS_append, memS_cons]
            have hn := memS_nil t
            constructor
            · rintro (h | h | h)
              · exact .inl (.inl h)
              · by_cases h5 : t < y2
                · exact .inl (.inr (.inl ⟨h.1, h5⟩))
                · exact .inr (by omega)
              · exact absurd h hn
            · rintro ((h | h | h) | h)
              · exact .inl h
              · exact .inr (.inl (by omega))
              · exact absurd h hn
              · exact .inr (.inl (by omega))
          · intro x hx
            rw [List.mem_append] at hx
            rcases hx with hx | hx
            · have := hp2 x hx (y1, y2) (by simp)
              simp only at this ⊢; omega
            · simp at hx; subst hx; simp
        · rename_i he
          refine ⟨⟨?_, ?_⟩, fun t => ?_, ?_⟩
          · rw [List.pairwise_append]
            refine ⟨hp0, by simp, ?_⟩
            intro a ha b hb'
            simp at hb'; subst hb'
            simp only
            rw [List.mem_append] at ha
            rcases ha with ha | ha
            · have := hp2 a ha (y1, y2) (by simp)
              simp only at this; omega
            · simp at ha; subst ha; simp only; omega
          · intro x hx
            rw [List.mem_append] at hx
            rcases hx with hx | hx
            · exact hok x hx
            · simp at hx; subst hx; unfold okP; simp only; omega
          · rw [memS_append (M0 ++ [(y1, y2)]), memS_cons]
            have hn := memS_nil t
            simp only [hn, or_false]
          · intro x hx
            rw [List.mem_append] at hx
            rcases hx with hx | hx
            · have := hb x hx (p, q) (by simp)
              simp only at this ⊢; omega
            · simp at hx; subst hx; simp
    obtain ⟨s1, s2, s3⟩ := step
    obtain ⟨h1, h2⟩ := ih (mgStep M s) s1 ⟨hcp.2, fun x hx => hco x (by simp [hx])⟩ (fun x hx y hy => by
      have := s3 x hx; have := hcp.1 y hy; omega)
    refine ⟨h1, fun t => ?_⟩
    rw [List.foldl_cons, h2 t, s2 t, memS_cons, or_assoc]
theorem merge_norm {l : List Sp} (h : Chain l) : Norm (mergeS l) ∧ ∀ t, memS (mergeS l) t ↔ memS l t := by
  obtain ⟨h1, h2⟩ := mg_all l [] ⟨by simp, by simp⟩ h (by simp)
  exact ⟨h1, fun t => by rw [show mergeS l = l.foldl mgStep [] from rfl, h2 t]; simp [memS]⟩
/-- ADD: what comes of it, whichever way equal ones were put in order. -/
theorem add_norm {l l' : List Sp} {s : Sp} (hl : Norm l) (hs : okP s) (hp : l'.Perm (withoutS l s ++ [s])) (hso : sortedS l') :
    Norm (mergeS l') ∧ ∀ t, memS (mergeS l') t ↔ memS l t ∨ (s.1 ≤ t ∧ t < s.2) := by
  obtain ⟨h1, h2⟩ := merge_norm (chain_of hl hs hp hso)
  refine ⟨h1, fun t => ?_⟩
  rw [h2 t, memS_perm hp, memS_append, withoutS_mem hl hs.vS, memS_cons]
  have hn := memS_nil t
  constructor
  · rintro (h | h | h)
    · exact .inl h.1
    · exact .inr h
    · exact absurd h hn
  · rintro (h | h)
    · by_cases h5 : s.1 ≤ t ∧ t < s.2
      · exact .inr (.inl h5)
      · exact .inl ⟨h, h5⟩
    · exact .inr (.inl h)

/-- Two that have the same times are one. -/
theorem norm_ext {l : List Sp} : ∀ {l' : List Sp}, Norm l → Norm l' → (∀ t, memS l t ↔ memS l' t) → l = l' := by
  induction l with
  | nil =>
    intro l' _ h2 h3
    cases l' with
    | nil => rfl
    | cons y r =>
      exfalso
      have hy := h2.2 y (by simp)
      unfold okP at hy
      exact memS_nil y.1 ((h3 y.1).2 ((memS_cons y r y.1).2 (.inl ⟨Int.le_refl _, hy.2.1⟩)))
  | cons x r ih =>
    intro l' h1 h2 h3
    have hx := h1.2 x (by simp)
    cases l' with
    | nil =>
      exfalso
      unfold okP at hx
      exact memS_nil x.1 ((h3 x.1).1 ((memS_cons x r x.1).2 (.inl ⟨Int.le_refl _, hx.2.1⟩)))
    | cons y r' =>
      have hy := h2.2 y (by simp)
      obtain ⟨hp1, ho1⟩ := h1
      obtain ⟨hp2, ho2⟩ := h2
      rw [List.pairwise_cons] at hp1 hp2
      have lowr : ∀ t, memS r t → x.2 < t := fun t ⟨z, hz, h4, _⟩ => by have := hp1.1 z hz; omega
      have lowr' : ∀ t, memS r' t → y.2 < t := fun t ⟨z, hz, h4, _⟩ => by have := hp2.1 z hz; omega
      unfold okP at hx hy
      have e1 : x.1 = y.1 := by
        have a := (h3 x.1).1 ((memS_cons _ _ _).2 (.inl ⟨Int.le_refl _, hx.2.1⟩))
        have b := (h3 y.1).2 ((memS_cons _ _ _).2 (.inl ⟨Int.le_refl _, hy.2.1⟩))
        rw [memS_cons] at a b
        rcases a with a | a
        · rcases b with b | b
          · omega
          · have := lowr _ b; omega
        · have := lowr' _ a
          rcases b with b | b
          · omega
          · have := lowr _ b; omega
      have e2 : x.2 = y.2 := by
        rcases Int.lt_trichotomy x.2 y.2 with h | h | h
        · have b := (h3 x.2).2 ((memS_cons _ _ _).2 (.inl ⟨by omega, h⟩))
          rw [memS_cons] at b
          rcases b with b | b
          · omega
          · have := lowr _ b; omega
        · exact h
        · have b := (h3 y.2).1 ((memS_cons _ _ _).2 (.inl ⟨by omega, h⟩))
          rw [memS_cons] at b
          rcases b with b | b
          · omega
          · have := lowr' _ b; omega
      have exy : x = y := Prod.ext e1 e2
      rw [exy]
      congr 1
      refine ih ⟨hp1.2, fun z hz => ho1 z (by simp [hz])⟩ ⟨hp2.2, fun z hz => ho2 z (by simp [hz])⟩ (fun t => ?_)
      have := h3 t
      rw [memS_cons, memS_cons, exy] at this
      constructor
      · intro h
        have hl := lowr t h
        rcases this.1 (.inr h) with h5 | h5
        · omega
        · exact h5
      · intro h
        have hl := lowr' t h
        rcases this.2 (.inr h) with h5 | h5
        · omega
        · exact h5

theorem norm_len {l : List Sp} (h : Norm l) : l.length ≤ 1001 := by
  have g : ∀ (l : List Sp) (a : Int), Norm l → (∀ x ∈ l, a ≤ x.1) → a ≤ 1000 → a + l.length ≤ 1001 := by
    intro l
    induction l with
    | nil => intro a _ _ h; simp; omega
    | cons x r ih =>
      intro a h1 h2 h3
      obtain ⟨hp, ho⟩ := h1
      rw [List.pairwise_cons] at hp
      have hx := ho x (by simp)
      have hax := h2 x (by simp)
      unfold okP at hx
      have := ih (a + 1) ⟨hp.2, fun z hz => ho z (by simp [hz])⟩ (fun y hy => by have := hp.1 y hy; omega) (by omega)
      simp only [List.length_cons]; omega
  have h2 := g l 0 h (fun x hx => (h.2 x hx).1) (by omega)
  omega
theorem norm_v {l : List Sp} (h : Norm l) : ∀ x ∈ l, vS x := fun x hx => (h.2 x hx).vS
theorem norm_okS {l : List Sp} (h : Norm l) : okS l := ⟨by have := norm_len h; omega, norm_v h⟩

/-! ### How many -/
def cnt (p : Int → Bool) : Nat := (List.range 1001).countP (fun n : Nat => p n)
theorem cnt_lt {p q : Int → Bool} (h : ∀ t, p t = true → q t = true) : cnt p < cnt q ↔ ∃ n : Nat, n < 1001 ∧ q n = true ∧ p n = false := by
  unfold cnt
  have g : ∀ l : List Nat, l.countP (fun n : Nat => p n) ≤ l.countP (fun n : Nat => q n) ∧ (l.countP (fun n : Nat => p n) < l.countP (fun n : Nat => q n) ↔ ∃ n ∈ l, q n = true ∧ p n = false) := by
    intro l
    induction l with
    | nil => simp
    | cons a r ih =>
      obtain ⟨ih1, ih2⟩ := ih
      rw [List.countP_cons, List.countP_cons]
      cases hp : p a
      · cases hq : q a
        · simp only [Bool.false_eq_true, if_false, Nat.add_zero, List.mem_cons, exists_eq_or_imp, hq, hp, false_and, false_or]
          exact ⟨ih1, ih2⟩
        · simp only [Bool.false_eq_true, if_false, if_true, Nat.add_zero, List.mem_cons, exists_eq_or_imp, hq, hp, and_self, true_or, iff_true]
          omega
      · have hq := h a hp
        simp only [if_true, List.mem_cons, exists_eq_or_imp, hq, hp, Bool.true_eq_false, and_false, false_or]
        refine ⟨by omega, ?_⟩
        rw [← ih2]; omega
  rw [(g _).2]
  constructor
  · rintro ⟨n, hn, h2⟩; exact ⟨n, List.mem_range.1 hn, h2⟩
  · rintro ⟨n, hn, h2⟩; exact ⟨n, List.mem_range.2 hn, h2⟩
theorem cnt_span {a b : Int} (h0 : 0 ≤ a) (h1 : a ≤ b) (h2 : b ≤ 1000) : (cnt fun t => decide (a ≤ t) && decide (t < b) : Int) = b - a := by
  unfold cnt
  have g : ∀ N : Nat, ((List.range N).countP (fun n : Nat => decide (a ≤ (n : Int)) && decide ((n : Int) < b)) : Int) = max 0 (min b N - a) := by
    intro N
    induction N with
    | zero => simp; omega
    | succ N ih =>
      rw [List.range_succ, List.countP_append, List.countP_cons, List.countP_nil]
      push_cast
      rw [ih]
      by_cases h3 : a ≤ (N : Int)
      · by_cases h4 : (N : Int) < b
        · simp only [h3, h4, decide_true, Bool.and_self, if_true]; omega
        · simp only [h3, h4, decide_true, decide_false, Bool.and_false, if_false, Bool.false_eq_true]; omega
      · simp only [h3, decide_false, Bool.false_and, if_false, Bool.false_eq_true]; omega
  rw [g 1001]; omega
theorem cnt_add {p q : Int → Bool} (h : ∀ t, p t = true → q t = false) : cnt (fun t => p t || q t) = cnt p + cnt q := by
  unfold cnt
  generalize List.range 1001 = l
  induction l with
  | nil => rfl
  | cons a r ih =>
    rw [List.countP_cons, List.countP_cons, List.countP_cons, ih]
    generalize List.countP (fun n : Nat => p n) r = A
    generalize List.countP (fun n : Nat => q n) r = B
    cases hp : p a
    · cases hq : q a
      · simp [hp, hq]
      · simp [hp, hq]; omega
    · have := h a hp; simp [hp, this]; omega
theorem szS_cnt {l : List Sp} (h : Norm l) : szS l = cnt fun t => l.any (hasB t) := by
  induction l with
  | nil => simp [szS, cnt]
  | cons x r ih =>
    obtain ⟨hp, ho⟩ := h
    rw [List.pairwise_cons] at hp
    have hx := ho x (by simp)
    unfold okP at hx
    have ih' := ih ⟨hp.2, fun z hz => ho z (by simp [hz])⟩
    have e : szS (x :: r) = (x.2 - x.1) + szS r := by simp [szS]
    have e2 : (fun t => (x :: r).any (hasB t)) = fun t => (decide (x.1 ≤ t) && decide (t < x.2)) || r.any (hasB t) := by
      funext t; simp [hasB]
    rw [e, ih', e2, cnt_add, ← cnt_span hx.1 (by omega) hx.2.2]
    · push_cast; rfl
    · intro t ht
      rw [Bool.and_eq_true, decide_eq_true_eq, decide_eq_true_eq] at ht
      cases hr : r.any (hasB t)
      · rfl
      · obtain ⟨z, hz, h4, _⟩ := (memS_any r t).1 hr
        have := hp.1 z hz; omega
theorem sz_lt {l l' : List Sp} (h : Norm l) (h' : Norm l') (hs : ∀ t, memS l t → memS l' t) : szS l < szS l' ↔ ∃ t, memS l' t ∧ ¬ memS l t := by
  rw [szS_cnt h, szS_cnt h']
  have := cnt_lt (p := fun t => l.any (hasB t)) (q := fun t => l'.any (hasB t)) (fun t ht => (memS_any l' t).2 (hs t ((memS_any l t).1 ht)))
  rw [Int.ofNat_lt, this]
  constructor
  · rintro ⟨n, _, h1, h2⟩
    exact ⟨n, (memS_any l' n).1 h1, fun h3 => by rw [(memS_any l n).2 h3] at h2; cases h2⟩
  · rintro ⟨t, h1, h2⟩
    have hb : 0 ≤ t ∧ t < 1000 := by
      obtain ⟨z, hz, h3, h4⟩ := h1
      have := h'.2 z hz; unfold okP at this; omega
    obtain ⟨n, rfl⟩ := Int.eq_ofNat_of_zero_le hb.1
    refine ⟨n, by omega, (memS_any l' n).2 h1, ?_⟩
    cases h5 : l.any (hasB n)
    · rfl
    · exact absurd ((memS_any l n).1 h5) h2
end Go.Proofs.Ytafdddakkenlaaa

/- The ring: plain laws of who is preferred. No program in sight. -/
import Derived.Test.YtomhdkppgfcaaaaRgI
namespace Go.Proofs.Ytomhdkppgfcaaaa

def ddStep (out : List Int) (n : Int) : List Int := if n ∈ out then out else out ++ [n]
/-- Each once, at its first place. -/
def dd (l : List Int) : List Int := l.foldl ddStep []
theorem dd_snoc (l : List Int) (n : Int) : dd (l ++ [n]) = ddStep (dd l) n := by simp [dd]
theorem mem_dd : ∀ (l : List Int) (x : Int), x ∈ dd l ↔ x ∈ l := by
  suffices h : ∀ (l out : List Int) (x : Int), x ∈ l.foldl ddStep out ↔ x ∈ out ∨ x ∈ l by
    intro l x; rw [dd, h]; simp
  intro l
  induction l with
  | nil => simp
  | cons y r ih =>
    intro out x
    rw [List.foldl_cons, ih]
    unfold ddStep
    split
    · rename_i hy; constructor
      · rintro (h | h); exact .inl h; exact .inr (.tail _ h)
      · rintro (h | h)
        · exact .inl h
        · rcases List.mem_cons.1 h with rfl | h
          · exact .inl hy
          · exact .inr h
    · simp [or_assoc]
theorem nodup_dd : ∀ (l : List Int), (dd l).Nodup := by
  suffices h : ∀ (l out : List Int), out.Nodup → (l.foldl ddStep out).Nodup from fun l => h l [] List.nodup_nil
  intro l
  induction l with
  | nil => exact fun _ h => h
  | cons y r ih =>
    intro out ho
    rw [List.foldl_cons]
    refine ih _ ?_
    unfold ddStep
    split
    · exact ho
    · rename_i hy
      rw [List.nodup_append]
      exact ⟨ho, by simp, by intro a ha b hb; simp at hb; subst hb; exact fun e => hy (e ▸ ha)⟩
/-- What the program reckons is a beginning of it. -/
theorem fold_take (most : Int) (l : List Int) : l.foldl (prefStep most) [] = (dd l).take most.toNat := by
  suffices h : ∀ (l out : List Int), l.foldl (prefStep most) (out.take most.toNat) = (l.foldl ddStep out).take most.toNat by
    have := h l []; simpa [dd] using this
  intro l
  induction l with
  | nil => intro out; rfl
  | cons y r ih =>
    intro out
    rw [List.foldl_cons, List.foldl_cons, ← ih]
    congr 1
    unfold prefStep ddStep
    by_cases hl : out.length < most.toNat
    · have e : out.take most.toNat = out := List.take_of_length_le (by omega)
      rw [e]
      by_cases hy : y ∈ out
      · rw [if_pos (.inr hy), if_pos hy, e]
      · rw [if_neg (by rintro (h | h); · omega
                       · exact hy h), if_neg hy, List.take_of_length_le (by simp; omega)]
    · have hlen : (out.take most.toNat).length = most.toNat := by simp; omega
      rw [if_pos (.inl (by rw [hlen]; omega))]
      by_cases hy : y ∈ out
      · rw [if_pos hy]
      · rw [if_neg hy, List.take_append_of_le_length (by omega)]
theorem dd_filter (p : Int → Bool) : ∀ (l : List Int), dd (l.filter p) = (dd l).filter p := by
  suffices h : ∀ (l out : List Int), (l.filter p).foldl ddStep (out.filter p) = (l.foldl ddStep out).filter p from fun l => h l []
  intro l
  induction l with
  | nil => intro out; rfl
  | cons y r ih =>
    intro out
    rw [List.foldl_cons, ← ih]
    by_cases hp : p y = true
    · rw [List.filter_cons_of_pos hp, List.foldl_cons]
      congr 1
      unfold ddStep
      by_cases hy : y ∈ out
      · rw [if_pos hy, if_pos (List.mem_filter.2 ⟨hy, hp⟩)]
      · rw [if_neg hy, if_neg (fun h => hy (List.mem_filter.1 h).1), List.filter_append, List.filter_cons_of_pos hp]; rfl
    · rw [List.filter_cons_of_neg hp]
      congr 1
      unfold ddStep
      split
      · rfl
      · rw [List.filter_append, List.filter_cons_of_neg hp]; simp
/-- A rising list, turned, by its two parts. -/
theorem rot_filter {ps : List Pt} (hs : ps.Pairwise leP) (h : Int) : rot ps (lo ps h) = ps.filter (fun x => !decide (x.1 < h)) ++ ps.filter (fun x => decide (x.1 < h)) := by
  unfold rot lo
  have e1 : ps.take (ps.takeWhile fun x => decide (x.1 < h)).length = ps.takeWhile fun x => decide (x.1 < h) := by
    have := List.take_left (l₁ := ps.takeWhile fun x => decide (x.1 < h)) (l₂ := ps.dropWhile fun x => decide (x.1 < h))
    rwa [List.takeWhile_append_dropWhile] at this
  have e2 : ps.drop (ps.takeWhile fun x => decide (x.1 < h)).length = ps.dropWhile fun x => decide (x.1 < h) := by
    have := List.drop_left (l₁ := ps.takeWhile fun x => decide (x.1 < h)) (l₂ := ps.dropWhile fun x => decide (x.1 < h))
    rwa [List.takeWhile_append_dropWhile] at this
  have key : ∀ (ps : List Pt), ps.Pairwise leP → ps.takeWhile (fun x => decide (x.1 < h)) = ps.filter (fun x => decide (x.1 < h)) ∧ ps.dropWhile (fun x => decide (x.1 < h)) = ps.filter (fun x => !decide (x.1 < h)) := by
    intro ps
    induction ps with
    | nil => intro _; exact ⟨rfl, rfl⟩
    | cons x r ih =>
      intro hs
      have hs' := List.pairwise_cons.1 hs
      by_cases hx : x.1 < h
      · obtain ⟨i1, i2⟩ := ih hs'.2
        simp [List.takeWhile, List.dropWhile, hx, i1, i2]
      · have hall : ∀ y ∈ r, ¬ y.1 < h := fun y hy => by have := hs'.1 y hy; unfold leP at this; omega
        have f1 : r.filter (fun x => decide (x.1 < h)) = [] := by rw [List.filter_eq_nil_iff]; intro y hy; simpa using Int.not_lt.1 (hall y hy)
        have f2 : r.filter (fun x => !decide (x.1 < h)) = r := by rw [List.filter_eq_self]; intro y hy; simpa using Int.not_lt.1 (hall y hy)
        simp [List.takeWhile, List.dropWhile, hx, f1, f2]
  obtain ⟨k1, k2⟩ := key ps hs
  rw [e1, e2, k1, k2]
theorem prefer_dd (ps : List Pt) (h most : Int) : prefer ps h most = (dd ((rot ps (lo ps h)).map (·.2))).take most.toNat := by
  unfold prefer prefTo
  rw [List.take_of_length_le (by rw [rot_len ps (lo_le ps h)]; exact Nat.le_refl _)]
  exact fold_take most _
/-- The points without a node's are the points of the others. -/
theorem isPts_without {ns nt : List Int} {n : Int} {ps pt : List Pt} (h1 : IsPts ns ps) (h2 : IsPts nt pt) (hn : nt = ns.filter (fun x => !decide (x = n))) : pt = ps.filter (fun x => !decide (x.2 = n)) := by
  have hraw : rawPts nt = (rawPts ns).filter (fun x => !decide (x.2 = n)) := by
    subst hn
    clear h1 h2
    induction ns with
    | nil => rfl
    | cons x r ih =>
      have e : rawPts (x :: r) = ptsOf1 x 8 ++ rawPts r := rfl
      rw [e, List.filter_append, ← ih]
      have hx : ∀ y ∈ ptsOf1 x 8, y.2 = x := by
        intro y hy
        simp [ptsOf1, ptAt] at hy
        obtain ⟨j, _, rfl⟩ := hy
        rfl
      by_cases hxn : x = n
      · rw [List.filter_cons_of_neg (by simp [hxn])]
        have : (ptsOf1 x 8).filter (fun y => !decide (y.2 = n)) = [] := by
          rw [List.filter_eq_nil_iff]; intro y hy; simp [hx y hy, hxn]
        rw [this]; rfl
      · rw [List.filter_cons_of_pos (by simp [hxn])]
        have : (ptsOf1 x 8).filter (fun y => !decide (y.2 = n)) = ptsOf1 x 8 := by
          rw [List.filter_eq_self]; intro y hy; simp [hx y hy, hxn]
        rw [this]; rfl
  refine sorted_unique ?_ h2.2 (h1.2.filter _)
  refine h2.1.trans ?_
  rw [hraw]
  exact (h1.1.filter _).symm
theorem isPts_unique {ns : List Int} {p q : List Pt} (h1 : IsPts ns p) (h2 : IsPts ns q) : p = q := sorted_unique (h1.1.trans h2.1.symm) h1.2 h2.2
/-- Who is preferred without a node: those with it, but it. -/
theorem full_without {ps : List Pt} (hs : ps.Pairwise leP) (h n : Int) :
    dd ((rot (ps.filter (fun x => !decide (x.2 = n))) (lo (ps.filter (fun x => !decide (x.2 = n))) h)).map (·.2)) = (dd ((rot ps (lo ps h)).map (·.2))).filter (fun x => !decide (x = n)) := by
  rw [rot_filter hs, rot_filter (hs.filter _), ← dd_filter, List.filter_map]
  congr 2
  rw [List.filter_append, List.filter_filter, List.filter_filter, List.filter_filter, List.filter_filter]
  congr 1 <;> (congr 1; funext x; simp [Function.comp, Bool.and_comm])
/-- P9.4, one node more. -/
theorem moves_plain {l : List Int} (hd : l.Nodup) (n : Int) (m : Nat) :
    ((l.take m).length - ((l.take m).filter fun x => !decide (x = n)).length ≤ 1) ∧ ((l.take m).filter fun x => !decide (x = n)).length ≤ (l.take m).length ∧
    ((l.take m).filter fun x => !decide (x = n)).length ≤ ((l.filter fun x => !decide (x = n)).take m).length ∧
    (((l.filter fun x => !decide (x = n)).take m).length - ((l.take m).filter fun x => !decide (x = n)).length ≤ 1) ∧
    ((l.filter fun x => !decide (x = n)).take m).take ((l.take m).filter fun x => !decide (x = n)).length = (l.take m).filter fun x => !decide (x = n) := by
  have hone : ∀ (l : List Int), l.Nodup → l.length - (l.filter fun x => !decide (x = n)).length ≤ 1 := by
    intro l
    induction l with
    | nil => intro _; simp
    | cons x r ih =>
      intro hd
      obtain ⟨h1, h2⟩ := List.nodup_cons.1 hd
      by_cases hx : x = n
      · have : r.filter (fun x => !decide (x = n)) = r := by
          rw [List.filter_eq_self]; intro y hy; simp; intro e; subst e; subst hx; exact h1 hy
        rw [List.filter_cons_of_neg (by simp [hx]), this]; simp
      · rw [List.filter_cons_of_pos (by simp [hx])]
        have := ih h2
        simp only [List.length_cons]; omega
  have hf : l.filter (fun x => !decide (x = n)) = (l.take m).filter (fun x => !decide (x = n)) ++ (l.drop m).filter (fun x => !decide (x = n)) := by
    rw [← List.filter_append, List.take_append_drop]
  have h1 := hone (l.take m) (hd.sublist (List.take_sublist m l))
  have h2 := List.length_filter_le (fun x => !decide (x = n)) (l.take m)
  have h3 : (l.take m).length = min m l.length := by simp
  have h4 : ((l.take m).filter fun x => !decide (x = n)).length ≤ ((l.filter fun x => !decide (x = n)).take m).length := by
    rw [List.length_take, hf, List.length_append]; omega
  refine ⟨h1, h2, h4, ?_, ?_⟩
  · rw [List.length_take]
    by_cases hm : m ≤ l.length
    · omega
    · have : l.drop m = [] := List.drop_eq_nil_of_le (by omega)
      rw [hf, this]; simp; omega
  · rw [List.take_take, Nat.min_eq_left (by omega), hf, List.take_left]
end Go.Proofs.Ytomhdkppgfcaaaa

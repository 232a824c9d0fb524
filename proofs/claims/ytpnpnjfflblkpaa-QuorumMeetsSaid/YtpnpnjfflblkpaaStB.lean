/- Sorting that keeps: plain laws: an insertion sort; sorted blocks. -/
import Derived.Test.YtpnpnjfflblkpaaStA
namespace Go.Proofs.Ytpnpnjfflblkpaa
open Go.RowKit Go.Sort

def ltP (x y : Pt) : Bool := ltOf cmpB x y
theorem ltP_eq (x y : Pt) : ltOf cmpB x y = decide (bef x y) := by
  unfold ltOf cmpB
  by_cases h : bef x y
  · simp [h]
  · by_cases h2 : bef y x <;> simp [h, h2]
theorem srt_mono {l : List Pt} (h : SrtB l) {i j : Nat} (hi : i ≤ j) (hj : j < l.length) : leB l[i] l[j] := by
  by_cases e : i = j
  · subst e; exact leB_refl _
  · exact List.pairwise_iff_getElem.1 h i j (by omega) hj (by omega)
/-- One is put in among sorted ones ahead of it. -/
theorem ins_inner (L : List Pt) (y : Pt) (R : List Pt) : ∀ (P : List Pt) (d : Array Pt), d.toList = L ++ P ++ y :: R → SrtB P →
    ∃ T, (insInner (ltOf cmpB) L.length (L.length + P.length) d).toList = L ++ T ++ R ∧ SrtB T ∧ Stab (P ++ [y]) T := by
  intro P
  induction hn : P.length generalizing P R with
  | zero =>
    intro d hd _
    obtain rfl : P = [] := List.eq_nil_of_length_eq_zero hn
    refine ⟨[y], ?_, List.pairwise_singleton _ _, Stab.rfl'⟩
    rw [insInner_stop _ _ _ _ (.inl (by omega)), hd]; simp
  | succ n ih =>
    intro d hd hP
    obtain ⟨Q, q, rfl⟩ : ∃ Q q, P = Q ++ [q] := by
      refine ⟨P.dropLast, P.getLast (by intro e; rw [e] at hn; simp at hn), ?_⟩
      exact (List.dropLast_concat_getLast _).symm
    have hQ : Q.length = n := by simpa using hn
    have e1 : d[L.length + (n + 1)]! = y := arr_mid (L := L ++ (Q ++ [q])) (R := R) hd (by simp; omega)
    have e2 : d[L.length + n]! = q := arr_mid (L := L ++ Q) (R := y :: R) (by rw [hd]; simp) (by simp; omega)
    by_cases hb : bef y q
    · have hgo := insInner_go (ltOf cmpB) L.length (L.length + (n + 1)) d (by omega) (by rw [show L.length + (n + 1) - 1 = L.length + n by omega, e1, e2, ltP_eq]; exact decide_eq_true hb)
      rw [hgo, show L.length + (n + 1) - 1 = L.length + n by omega]
      have hs : (swp d (L.length + (n + 1)) (L.length + n)).toList = L ++ Q ++ y :: (q :: R) := by
        rw [swp_comm _ _ _ (by omega)]
        have := swp_list (d := d) (L := L ++ Q) (M := []) (R := R) (x := q) (y := y) (by rw [hd]; simp) (i := L.length + n) (j := L.length + (n + 1)) (by simp; omega) (by simp; omega)
        simpa using this
      obtain ⟨T, hT, hsT, hst⟩ := ih (q :: R) Q hQ _ hs (List.pairwise_append.1 hP).1
      refine ⟨T ++ [q], by rw [hT]; simp, ?_, ?_⟩
      · refine List.pairwise_append.2 ⟨hsT, List.pairwise_singleton _ _, fun x hx z hz => ?_⟩
        obtain rfl : z = q := List.mem_singleton.1 hz
        rcases List.mem_append.1 (hst.perm.mem_iff.1 hx) with h | h
        · exact (List.pairwise_append.1 hP).2.2 x h z (List.mem_singleton.2 rfl)
        · rw [List.mem_singleton.1 h]; exact bef_le hb
      · have h1 : Stab (Q ++ [q] ++ [y]) (Q ++ [y] ++ [q]) := by
          have hs : Stab ([q] ++ [y]) ([y] ++ [q]) := Stab.swap fun a ha b hb2 e => by
            rw [List.mem_singleton.1 ha, List.mem_singleton.1 hb2] at e
            exact bef_ne hb ⟨e.1.symm, e.2.symm⟩
          have := (Stab.rfl' (l := Q)).app hs
          simpa [List.append_assoc] using this
        exact h1.tr (hst.app Stab.rfl')
    · refine ⟨Q ++ [q] ++ [y], ?_, ?_, Stab.rfl'⟩
      · rw [insInner_stop _ _ _ _ (.inr (by rw [show L.length + (n + 1) - 1 = L.length + n by omega, e1, e2, ltP_eq]; exact decide_eq_false hb)), hd]; simp
      · refine List.pairwise_append.2 ⟨hP, List.pairwise_singleton _ _, fun x hx z hz => ?_⟩
        obtain rfl : z = y := List.mem_singleton.1 hz
        have hq : leB q z := hb
        rcases List.mem_append.1 hx with h | h
        · exact leB_trans ((List.pairwise_append.1 hP).2.2 x h q (List.mem_singleton.2 rfl)) hq
        · rw [List.mem_singleton.1 h]; exact hq
theorem ins_outer (L R : List Pt) (b : Nat) : ∀ (n : Nat) (P Q : List Pt) (d : Array Pt), Q.length = n → d.toList = L ++ P ++ Q ++ R → SrtB P → b = L.length + P.length + Q.length →
    ∃ T, (insOuter (ltOf cmpB) L.length b (L.length + P.length) d).toList = L ++ T ++ R ∧ SrtB T ∧ Stab (P ++ Q) T := by
  intro n
  induction n with
  | zero =>
    intro P Q d hn hd hP hb
    obtain rfl : Q = [] := List.eq_nil_of_length_eq_zero hn
    refine ⟨P, ?_, hP, by rw [List.append_nil]; exact Stab.rfl'⟩
    rw [insOuter_stop _ _ _ _ _ (by simp at hb; omega), hd]; simp
  | succ n ih =>
    intro P Q d hn hd hP hb
    match Q, hn with
    | y :: Q, hn =>
      simp at hn hb
      rw [insOuter_go _ _ _ _ _ (by omega)]
      obtain ⟨T, hT, hsT, hst⟩ := ins_inner L y (Q ++ R) P d (by rw [hd]; simp) hP
      have hlT : T.length = P.length + 1 := by rw [hst.len]; simp
      obtain ⟨T2, h2, hs2, hst2⟩ := ih T Q (insInner (ltOf cmpB) L.length (L.length + P.length) d) hn (by rw [hT]; simp) hsT (by omega)
      rw [show L.length + P.length + 1 = L.length + T.length by omega]
      refine ⟨T2, h2, hs2, ?_⟩
      have := hst.app (Stab.rfl' (l := Q))
      simpa [List.append_assoc] using this.tr hst2
theorem insertion_list {L U R : List Pt} {d : Array Pt} (h : d.toList = L ++ U ++ R) {a b : Nat} (ha : a = L.length) (hb : b = L.length + U.length) : ∃ T, (insertionSort (ltOf cmpB) d a b).toList = L ++ T ++ R ∧ SrtB T ∧ Stab U T := by
  subst ha
  unfold insertionSort
  match U, h, hb with
  | [], h, hb =>
    refine ⟨[], ?_, List.Pairwise.nil, Stab.rfl'⟩
    rw [insOuter_stop _ _ _ _ _ (by simp at hb; omega), h]
  | x :: U, h, hb =>
    simp at hb
    have := ins_outer L R b U.length [x] U d rfl (by rw [h]; simp) (List.pairwise_singleton _ _) (by simp; omega)
    simpa using this
/-- Each block of n is sorted. -/
def BlkB (n : Nat) (l : List Pt) : Prop := ∀ i j (hi : i < j) (hj : j < l.length), i / n = j / n → leB l[i] l[j]
theorem BlkB.nil (n : Nat) : BlkB n [] := fun _ _ _ hj => by simp at hj
theorem BlkB.app {n q : Nat} {X T : List Pt} (h : BlkB n X) (hX : X.length = q * n) (hn : 0 < n) (hs : SrtB T) : BlkB n (X ++ T) := fun i j hi hj e => by
  by_cases h1 : j < X.length
  · rw [List.getElem_append_left (by omega), List.getElem_append_left h1]; exact h i j hi h1 e
  · by_cases h2 : i < X.length
    · exfalso
      have a1 : i / n < q := Nat.div_lt_of_lt_mul (by rw [Nat.mul_comm]; omega)
      have a2 : q ≤ j / n := (Nat.le_div_iff_mul_le hn).2 (by omega)
      omega
    · rw [List.getElem_append_right (by omega), List.getElem_append_right (by omega)]
      rw [List.length_append] at hj
      exact List.pairwise_iff_getElem.1 hs (i - X.length) (j - X.length) (by omega) (by omega) (by omega)
theorem BlkB.take {n : Nat} {Y : List Pt} (h : BlkB n Y) : SrtB (Y.take n) := List.pairwise_iff_getElem.2 fun i j hi hj hij => by
  rw [List.length_take] at hi hj
  rw [List.getElem_take, List.getElem_take]
  exact h i j hij (by omega) (by rw [Nat.div_eq_of_lt (by omega), Nat.div_eq_of_lt (by omega)])
theorem BlkB.drop {n : Nat} {Y : List Pt} (h : BlkB n Y) (hn : 0 < n) : BlkB n (Y.drop n) := fun i j hi hj e => by
  rw [List.length_drop] at hj
  rw [List.getElem_drop, List.getElem_drop]
  exact h (n + i) (n + j) (by omega) (by omega) (by rw [Nat.add_div_left _ hn, Nat.add_div_left _ hn, e])
theorem BlkB.all {n : Nat} {Y : List Pt} (h : BlkB n Y) (hY : Y.length ≤ n) : SrtB Y := List.pairwise_iff_getElem.2 fun i j hi hj hij =>
  h i j hij hj (by rw [Nat.div_eq_of_lt (by omega), Nat.div_eq_of_lt (by omega)])
theorem BlkB.of {n : Nat} {Y : List Pt} (h : SrtB Y) : BlkB n Y := fun i j hi hj _ => List.pairwise_iff_getElem.1 h i j (by omega) hj hi
end Go.Proofs.Ytpnpnjfflblkpaa

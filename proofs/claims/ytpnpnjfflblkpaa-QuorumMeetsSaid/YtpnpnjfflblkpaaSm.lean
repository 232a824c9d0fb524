/- slices.Sort and slices.Compact at lists of numbers of the call's own, over 'ownsRow'; sorted without repeats. Wants Lm (sortI), Lb (compI), Gn. -/
import Derived.Test.YtpnpnjfflblkpaaGn
import Derived.Test.YtpnpnjfflblkpaaLm
import Derived.Test.YtpnpnjfflblkpaaLb
import Derived.Shelf.SortM.Plain
import Derived.Shelf.SortM.SortNone
import Derived.Shelf.SlicesE.Compact
import Derived.Sort.OwnSortedInts
namespace Go.Proofs.Ytpnpnjfflblkpaa
open Go.RowKit Go.Sort Go.Shelf Go.Lib

theorem one_int : OneCell (Value.int .i64) := fun _ => rfl
theorem sort_nil (w : World) : Calls Try.prog 41 #[.slice none 0 0] w fun e w' => e = .returned (.tuple #[]) ∧ w' = w :=
  AnyM.slices_Sort_int_none sortI none 0 w
/-- The sorted list. -/
def srtd (l : List Int) : List Int := l.mergeSort fun x y => decide (x ≤ y)
theorem srtd_len (l : List Int) : (srtd l).length = l.length := by simp [srtd]
theorem srtd_mem {l : List Int} {x : Int} : x ∈ srtd l ↔ x ∈ l := by simp [srtd]
theorem srtd_le (l : List Int) : (srtd l).Pairwise (· ≤ ·) := by
  have h := List.pairwise_mergeSort (le := fun x y : Int => decide (x ≤ y)) (by intro a b c; simp; omega) (by intro a b; simp; omega) l
  exact h.imp (by intro a b; simp)
/-- Without what stands behind its like. -/
def cmpct (l : List Int) : List Int := compactUpTo l.toArray l.length
theorem cmpct_aux (l : List Int) (hl : l.Pairwise (· ≤ ·)) : ∀ m, m ≤ l.length → (∀ x, x ∈ compactUpTo l.toArray m ↔ x ∈ l.take m) ∧ (compactUpTo l.toArray m).Pairwise (· < ·) ∧ (compactUpTo l.toArray m).length ≤ m := by
  intro m
  induction m with
  | zero => intro _; simp [compactUpTo]
  | succ m ih =>
    intro hm
    obtain ⟨h1, h2, h3⟩ := ih (by omega)
    have hlt : m < l.length := by omega
    have hg : l.toArray[m]! = l[m] := by simp [getElem!_pos, hlt]
    rw [compactUpTo_succ, List.take_succ_eq_append_getElem hlt, hg]
    by_cases hk : keeps l.toArray m = true
    · rw [if_pos hk]
      refine ⟨fun x => by rw [List.mem_append, List.mem_append, h1], ?_, by simp; omega⟩
      rw [List.pairwise_append]
      refine ⟨h2, List.pairwise_singleton _ _, fun a ha b hb => ?_⟩
      rw [List.mem_singleton] at hb
      subst hb
      obtain ⟨j, hj, rfl⟩ := List.getElem_of_mem ((h1 a).1 ha)
      rw [List.length_take] at hj
      rw [List.getElem_take]
      have hjm : j < m := by omega
      have hm0 : m ≠ 0 := by omega
      have hle : l[j] ≤ l[m - 1] := by
        by_cases e : j = m - 1
        · subst e; exact Int.le_refl _
        · exact List.pairwise_iff_getElem.1 hl j (m - 1) (by omega) (by omega) (by omega)
      have hle2 : l[m - 1] ≤ l[m] := List.pairwise_iff_getElem.1 hl (m - 1) m (by omega) (by omega) (by omega)
      have hne : l[m] ≠ l[m - 1] := by
        simp only [keeps, decide_eq_true_eq] at hk
        rcases hk with hk | hk
        · exact absurd hk hm0
        · have e1 : l.toArray[m - 1]! = l[m - 1] := by simp [getElem!_pos, show m - 1 < l.length by omega]
          rwa [hg, e1] at hk
      omega
    · rw [if_neg hk]
      refine ⟨fun x => ?_, by simpa using h2, by simp; omega⟩
      rw [List.append_nil, h1, List.mem_append]
      constructor
      · exact .inl
      · rintro (h | h)
        · exact h
        · rw [List.mem_singleton] at h
          subst h
          simp only [keeps, decide_eq_true_eq, not_or] at hk
          obtain ⟨hm0, hk⟩ := hk
          have e1 : l.toArray[m - 1]! = l[m - 1] := by simp [getElem!_pos, show m - 1 < l.length by omega]
          rw [hg, e1] at hk
          have e2 : l[m] = l[m - 1] := Classical.not_not.1 hk
          rw [e2]
          exact List.mem_take_iff_getElem.2 ⟨m - 1, by omega, rfl⟩
/-- Sorted, each once. -/
def srt (l : List Int) : List Int := cmpct (srtd l)
theorem srt_lt (l : List Int) : (srt l).Pairwise (· < ·) := (cmpct_aux (srtd l) (srtd_le l) _ (Nat.le_refl _)).2.1
theorem srt_mem {l : List Int} {x : Int} : x ∈ srt l ↔ x ∈ l := by
  unfold srt cmpct
  rw [(cmpct_aux (srtd l) (srtd_le l) _ (Nat.le_refl _)).1, List.take_length, srtd_mem]
theorem srt_len (l : List Int) : (srt l).length ≤ l.length := by
  have := (cmpct_aux (srtd l) (srtd_le l) _ (Nat.le_refl _)).2.2
  rw [srtd_len] at this
  unfold srt cmpct
  rw [srtd_len]; exact this
/-- Two lists that rise and have the same members are one. -/
theorem rise_unique : ∀ {a b : List Int}, a.Pairwise (· < ·) → b.Pairwise (· < ·) → (∀ x, x ∈ a ↔ x ∈ b) → a = b
  | [], [], _, _, _ => rfl
  | [], y :: b, _, _, h => by have := (h y).2 (List.mem_cons_self ..); cases this
  | x :: a, [], _, _, h => by have := (h x).1 (List.mem_cons_self ..); cases this
  | x :: a, y :: b, ha, hb, h => by
    rw [List.pairwise_cons] at ha hb
    have hx : x = y := by
      have mx := (h x).1 (List.mem_cons_self ..)
      have my := (h y).2 (List.mem_cons_self ..)
      rcases List.mem_cons.1 mx with e | m1
      · exact e
      · rcases List.mem_cons.1 my with e | m2
        · exact e.symm
        · have := ha.1 y m2; have := hb.1 x m1; omega
    subst hx
    rw [rise_unique ha.2 hb.2 (fun z => ?_)]
    constructor
    · intro hz
      rcases List.mem_cons.1 ((h z).1 (List.mem_cons_of_mem _ hz)) with e | e
      · have := ha.1 z hz; omega
      · exact e
    · intro hz
      rcases List.mem_cons.1 ((h z).2 (List.mem_cons_of_mem _ hz)) with e | e
      · have := hb.1 z hz; omega
      · exact e
theorem srt_eq {l m : List Int} (hm : m.Pairwise (· < ·)) (h : ∀ x, x ∈ l ↔ x ∈ m) : srt l = m := rise_unique (srt_lt l) hm (fun x => by rw [srt_mem, h])
/-- The block that a row of its own lies in. -/
theorem own_form {w : World} {base e n : Nat} {v : Value} {l : List Int} (h : w.ownsRow base e 1 v n (encI l)) (hn : n = l.length) : (v = .slice none 0 0 ∧ l = []) ∨ ∃ g cap cur, v = .slice (some ⟨g, 0, none⟩) l.length cap ∧ base ≤ g ∧ w.heap[g]? = some (.cells cur e (0, 0)) ∧ l.length ≤ cap ∧ cap ≤ maxLen ∧ cur.size = cap * 1 ∧ cur.toList.take l.length = l.map (Value.int .i64) := by
  subst hn
  rcases h.2 with ⟨h1, h2⟩ | ⟨g, cap, cur, hv, hb, hg, hn, hm, hs, ht⟩
  · exact .inl ⟨h1, by cases l; rfl; simp at h2⟩
  · exact .inr ⟨g, cap, cur, hv, hb, hg, hn, hm, hs, by rw [Nat.mul_one] at ht; rw [ht, encI_map]⟩
theorem sort_own_calls (w : World) (base : Nat) (v : Value) (l : List Int) (h : w.ownsRow base 3 1 v l.length (encI l)) (hl : l.length ≤ 1000000) :
    Calls Try.prog 41 #[v] w fun e w' => e = .returned (.tuple #[]) ∧ w'.ownsRow base 3 1 v l.length (encI (srtd l)) ∧ w.grownBy w' v.ownBlock := by
  rcases own_form h rfl with ⟨rfl, rfl⟩ | ⟨g, cap, cur, rfl, hb, hg, hn, hm, hs, ht⟩
  · refine (AnyM.slices_Sort_int_none sortI none 0 w).mono ?_
    rintro e w' ⟨rfl, rfl⟩
    exact ⟨rfl, by rw [show srtd [] = [] by simp [srtd]]; exact World.ownsRow_nil _ _ _ _, ⟨rfl, rfl, rfl, Nat.le_refl _, fun _ _ _ => rfl⟩⟩
  · refine (AnyM.slices_Sort_int sortI g 0 cap l w (holds_of_blockI hg ht) (Array.getElem?_eq_some_iff.1 hg).1 (by omega)).mono ?_
    rintro e w' ⟨rfl, n, os, rfl⟩
    have h1 := ownsRow_sortedI (n := n) (os := os) (ts := srtd l) (srtd_len l) hb hg hn hm hs
    rw [← encI_map] at h1
    exact ⟨rfl, h1, grownBy_sortedI _⟩
theorem comp_own_calls (w : World) (base : Nat) (v : Value) (l : List Int) (h : w.ownsRow base 3 1 v l.length (encI l)) (hl : l.length ≤ 1000000) (hs : l.Pairwise (· ≤ ·)) :
    Calls Try.prog 42 #[v] w fun e w' => ∃ v', e = .returned v' ∧ w'.ownsRow base 3 1 v' (cmpct l).length (encI (cmpct l)) ∧ w.grownBy w' v.ownBlock := by
  rcases own_form h rfl with ⟨rfl, rfl⟩ | ⟨g, cap, cur, rfl, hb, hg, hn, hm, hsz, ht⟩
  · go_enter Try.func42, Try.ntmps42
    go_wp2_with fail
    go_ret
    exact ⟨_, rfl, World.ownsRow_nil _ _ _ _, ⟨rfl, rfl, rfl, Nat.le_refl _, fun _ _ _ => rfl⟩⟩
  · have hc := AnyE.slices_Compact compI (Value.int .i64) one_int (EqlAt.intD _ _ _) (NeqAt.intD _ _ _) 0 (fun w => by kernel_rfl) g 0 cap l.toArray w (holds_of_blockI hg ht) (by simp; omega) (by simpa using hn)
    have e0 : l.toArray.size = l.length := by simp
    rw [e0] at hc
    refine hc.mono ?_
    rintro e w' ⟨rfl, q, rfl⟩
    have hle : (cmpct l).length ≤ l.length := (cmpct_aux l hs _ (Nat.le_refl _)).2.2
    refine ⟨_, rfl, ?_, ?_⟩
    · have h1 := ownsRow_sortedI (n := q) (os := #[]) (ts := cmpct l ++ List.replicate (l.length - (cmpct l).length) 0) (by simp; omega) hb hg hn hm hsz
      rw [grow_empty] at h1
      rcases h1.2 with ⟨z, _⟩ | ⟨g', cap', cur', hv, hb', hg', hn', hm', hs', ht'⟩
      · cases z
      cases hv
      refine ⟨by rw [encI_map]; simp, .inr ⟨g, cap, cur', rfl, hb', hg', by omega, hm', hs', ?_⟩⟩
      rw [Nat.mul_one] at ht' ⊢
      have e2 : cur'.toList.take (cmpct l).length = (cur'.toList.take l.length).take (cmpct l).length := by rw [List.take_take, Nat.min_eq_left hle]
      show cur'.toList.take (cmpct l).length = _
      rw [e2, ht', encI_map, List.map_append, List.take_left' (by simp)]
    · have := grownBy_sortedI (w := w) (g := g) (n := q) (os := #[]) (cmpct l ++ List.replicate (l.length - (cmpct l).length) 0).toArray
      rwa [grow_empty] at this
end Go.Proofs.Ytpnpnjfflblkpaa

/- The sort's words (HoldsK, sortWorldK) and the row's own (ownsRow, grownBy), held against each other. No program in sight. -/
import Derived.Test.YtpnpnjfflblkpaaUt
import Derived.Shelf.SlSortCmp.InsertionK
namespace Go.Proofs.Ytpnpnjfflblkpaa
open Go.RowKit Go.Sort

theorem flatMap_len {α : Type} (enc : α → List Value) (k : Nat) (hk : ∀ x, (enc x).length = k) (l : List α) : (l.flatMap enc).length = l.length * k := by
  induction l with
  | nil => simp
  | cons x r ih => rw [List.flatMap_cons, List.length_append, ih, hk, List.length_cons, Nat.add_mul]; omega
section
variable {α : Type} [Inhabited α] (enc : α → List Value) (k : Nat)

theorem flatMap_get (hk : ∀ x, (enc x).length = k) (l : List α) : ∀ t, t < l.length * k → (l.flatMap enc)[t]! = (enc l[t / k]!)[t % k]! := by
  induction l with
  | nil => intro t h; simp at h
  | cons x r ih =>
    intro t h
    have k0 : 0 < k := by rcases Nat.eq_zero_or_pos k with h0 | h0; · subst h0; simp at h
                          · exact h0
    rw [List.flatMap_cons]
    rw [List.length_cons, Nat.add_mul, Nat.one_mul] at h
    by_cases ht : t < k
    · rw [Nat.div_eq_of_lt ht, Nat.mod_eq_of_lt ht]
      rw [getElem!_def, getElem!_def, List.getElem?_append_left (by rw [hk]; exact ht)]
      rfl
    · obtain ⟨u, rfl⟩ : ∃ u, t = u + k := ⟨t - k, by omega⟩
      rw [Nat.add_div_right u k0, Nat.add_mod_right]
      have := ih u (by omega)
      rw [getElem!_def, List.getElem?_append_right (by rw [hk]; omega), hk, Nat.add_sub_cancel]
      rw [getElem!_def] at this
      rw [this]
      congr 1
theorem flatK_list (hk : ∀ x, (enc x).length = k) (d : Array α) : (flatK enc k d).toList = d.toList.flatMap enc := by
  have hl : (flatK enc k d).toList.length = (d.toList.flatMap enc).length := by simp [flatMap_len enc k hk]
  apply List.ext_getElem hl
  intro t h1 h2
  have ht : t < d.size * k := by simpa using h1
  have e1 := get_flatK enc k d t ht
  have e2 := flatMap_get enc k hk d.toList t (by simpa using ht)
  rw [getElem!_pos (flatK enc k d) t (by simpa using h1)] at e1
  rw [getElem!_pos (d.toList.flatMap enc) t h2] at e2
  rw [show (flatK enc k d).toList[t] = (flatK enc k d)[t]'(by simpa using h1) from rfl, e1, e2]
  have : d[t / k]! = d.toList[t / k]! := by rw [getElem!_def, getElem!_def, Array.getElem?_toList]
  rw [this]

theorem holds_of_own (hk : ∀ x, (enc x).length = k) {w : World} {base e g cap : Nat} {l : List α}
    (h : w.ownsRow base e k (.slice (some ⟨g, 0, none⟩) l.length cap) l.length (l.flatMap enc)) : HoldsK enc k w g 0 l.toArray := by
  rcases h.2 with ⟨h2, _⟩ | ⟨g', cap', cur, hv, hb, hg, hn, hm, hs, ht⟩
  · cases h2
  · simp only [Value.slice.injEq, Option.some.injEq, Addr.mk.injEq] at hv
    obtain ⟨⟨rfl, _⟩, _, rfl⟩ := hv
    intro j hj
    have hj' : j < l.length * k := by simpa using hj
    have hc : cur.toList[j]? = some (flatK enc k l.toArray)[j]! := by
      have e : (flatK enc k l.toArray)[j]! = (l.flatMap enc)[j]! := by
        rw [get_flatK _ _ _ _ (by simpa using hj'), flatMap_get enc k hk l j hj']; simp
      rw [e, getElem!_pos (l.flatMap enc) j (by rw [flatMap_len enc k hk]; exact hj'), ← List.getElem?_eq_getElem, ← ht, List.getElem?_take_of_lt hj']
    refine ⟨?_, ?_⟩
    · rw [Nat.zero_add, cell_of_row w g j cur e (0, 0) hg]
      simpa using hc
    · simp [World.frozen?, hg]

theorem putCells_take (F cur : Array Value) (h : F.size ≤ cur.size) : (putCells id 0 F cur).toList.take F.size = F.toList := by
  apply List.ext_getElem
  · simp [putCells]; omega
  · intro t h1 h2
    have ht : t < F.size := by simpa using h2
    simp [putCells, ht]

theorem sort_own (hk : ∀ x, (enc x).length = k) {w : World} {base e g cap : Nat} {l : List α}
    (h : w.ownsRow base e k (.slice (some ⟨g, 0, none⟩) l.length cap) l.length (l.flatMap enc)) (m : Nat) (d : Array α) (hd : d.size = l.length) (os : Array Obj) :
    (sortWorldK enc k w g 0 m d os).ownsRow base e k (.slice (some ⟨g, 0, none⟩) l.length cap) l.length (d.toList.flatMap enc) ∧ w.grownBy (sortWorldK enc k w g 0 m d os) (some g) := by
  rcases h.2 with ⟨h2, _⟩ | ⟨g', cap', cur, hv, hb, hg, hn, hm, hs, ht⟩
  · cases h2
  · simp only [Value.slice.injEq, Option.some.injEq, Addr.mk.injEq] at hv
    obtain ⟨⟨rfl, _⟩, _, rfl⟩ := hv
    have hgl := (Array.getElem?_eq_some_iff.1 hg).1
    have hsz : (putRowK enc k (Sort.ahead w m) g 0 d).heap.size = w.heap.size := by simp [putRowK, putRow, mapBlock, Sort.ahead]
    have hblk : (putRowK enc k (Sort.ahead w m) g 0 d).heap[g]? = some (.cells (putCells id 0 (flatK enc k d) cur) e (0, 0)) := by
      simp [putRowK, putRow, mapBlock, Sort.ahead, Array.getElem?_modify, hg, onCells]
    have hold : ∀ j, j < w.heap.size → j ≠ g → (putRowK enc k (Sort.ahead w m) g 0 d).heap[j]? = w.heap[j]? := by
      intro j hj hne
      simp [putRowK, putRow, mapBlock, Sort.ahead, Array.getElem?_modify, Ne.symm hne]
    have hgr : ∀ j, j < w.heap.size → (sortWorldK enc k w g 0 m d os).heap[j]? = (putRowK enc k (Sort.ahead w m) g 0 d).heap[j]? := by
      intro j hj
      simp only [sortWorldK, grow]
      rw [Array.getElem?_append_left (by rw [hsz]; exact hj)]
    have hF : (flatK enc k d).size = l.length * k := by rw [size_flatK, hd]
    have hcs : l.length * k ≤ cur.size := by rw [hs]; exact Nat.mul_le_mul_right k hn
    refine ⟨⟨by rw [flatMap_len enc k hk]; simp [hd], .inr ⟨g, cap, putCells id 0 (flatK enc k d) cur, rfl, hb, by rw [hgr g hgl, hblk], hn, hm, by simp [putCells, hs], ?_⟩⟩, ⟨rfl, rfl, rfl, ?_, fun j hj hne => ?_⟩⟩
    · rw [← hF, putCells_take _ _ (by rw [hF]; exact hcs), flatK_list enc k hk]
    · simp only [sortWorldK, grow]; simp [hsz]
    · rw [hgr j hj, hold j hj (fun e => hne (by rw [e]))]
end
end Go.Proofs.Ytpnpnjfflblkpaa

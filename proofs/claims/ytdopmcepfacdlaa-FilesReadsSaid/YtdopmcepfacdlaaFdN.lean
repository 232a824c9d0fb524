/- The names of a map, sorted. -/
import Derived.Test.YtdopmcepfacdlaaFdM
namespace Go.Proofs.Ytdopmcepfacdlaa
open Go.RowKit Go.Maps Go.Sort Go.Shelf

theorem encStr_bl (s : ByteArray) : Go.Proofs.encStr (bl s) = .string s := by
  obtain ⟨⟨s⟩⟩ := s; simp [Go.Proofs.encStr, bl]
theorem mkeys_calls (mb : Option Nat) (W : World) : Calls Try.prog 48 #[.map mb] W fun e w' =>
    e = .returned (.func (.func 67) #[] #[.pointer (some ⟨W.heap.size, 0, none⟩)]) ∧ w' = W.alloc (.cells #[.map mb] 61) :=
  callsIn_wide.1 (AnyZ.keys_in keysF Fence.wide 5 trivial rfl mb W)
theorem sort_keys {l : Dir} (hr : Rise l) {ss ks : List (List UInt8)} (h1 : ss.Perm ks) (h2 : (keysD l).Perm ks) : ss.mergeSort (fun x y => decide (x ≤ y)) = keysD l := by
  have e := mergeSort_of_perm (h1.trans h2.symm)
  refine e.trans ?_
  refine List.mergeSort_of_pairwise ((keysD_sorted hr).imp fun {a b} h => ?_)
  simp only [decide_eq_true_eq]
  exact List.le_of_lt h
set_option maxRecDepth 100000 in
set_option maxHeartbeats 1000000 in
theorem sorted_calls (w : World) (mb : Option Nat) (l : Dir) (h : DirAt w mb l) (hlen : l.length ≤ 1000000) :
    Calls Try.prog 47 #[.func (.func 67) #[] #[.pointer (some ⟨w.heap.size, 0, none⟩)]] (w.alloc (.cells #[.map mb] 61)) fun e w' =>
      ∃ v, e = .returned v ∧ w'.ownsRow w.heap.size 9 1 v l.length (l.map fun x => .string x.1) ∧ Gr (w.alloc (.cells #[.map mb] 61)) w' := by
  have hmap : ∀ l : Dir, (keysD l).map Go.Proofs.encStr = l.map fun x => Value.string x.1 := fun l => by
    unfold keysD
    rw [List.map_map]
    exact List.map_congr_left fun x _ => encStr_bl x.1
  obtain ⟨hr, h20, ⟨rfl, rfl⟩ | ⟨b, D, rfl, hown, hsz, hat⟩⟩ := h
  · have hseq : SeqGives Fence.wide 2 Try.prog 67 #[.pointer (some ⟨w.heap.size, 0, none⟩)] Go.Proofs.encStr (fun ss : List (List UInt8) => ss = []) 0 (w.alloc (.cells #[.map none] 61)) :=
      AnyZ.keys_gives_nil (ρ := keysF_ren) { keysF with } Fence.wide _ trivial rfl w.heap.size _ (by simp) (by simp)
    refine (callsIn_wide.1 (AnyZ.sorted_in sortedF Fence.wide 5 trivial trivial trivial trivial rfl (by omega) (sorts _) (enters_of Try.func66 (by kernel_rfl) rfl) 67 #[.pointer (some ⟨w.heap.size, 0, none⟩)] trivial (enters_of Try.func67 (by kernel_rfl) rfl) _ 0 (Nat.zero_le _) (by omega) _ hseq)).mono ?_
    rintro e w' ⟨v, ss, rfl, rfl, hrow, hnil, hb⟩
    exact ⟨v, rfl, own_cast (own_mono (base' := w.heap.size) hrow (by simp)) rfl (by simp), hb⟩
  · have hbl := hown.lt
    have hseq : SeqGives Fence.wide 2 Try.prog 67 #[.pointer (some ⟨w.heap.size, 0, none⟩)] Go.Proofs.encStr (fun ss => ss.Perm (strKeys D)) (Maps.size D) (w.alloc (.cells #[.map (some b)] 61)) :=
      AnyZ.keys_gives (ρ := keysF_ren) { keysF with } Fence.wide _ trivial rfl (by omega) w.heap.size b l.length D _ (by simp) (by simp) (by
        obtain ⟨es, clock, hb, Ft, hs, hD⟩ := hown
        exact ⟨es, clock, (Below.heap_alloc _ _ b hbl).trans hb, Ft, hs, hD⟩)
    refine (callsIn_wide.1 (AnyZ.sorted_in sortedF Fence.wide 5 trivial trivial trivial trivial rfl (by omega) (sorts _) (enters_of Try.func66 (by kernel_rfl) rfl) 67 #[.pointer (some ⟨w.heap.size, 0, none⟩)] trivial (enters_of Try.func67 (by kernel_rfl) rfl) _ _ (by rw [hsz]; unfold maxLen; omega) (by rw [hsz]; omega) _ hseq)).mono ?_
    rintro e w' ⟨v, ss, rfl, hp, hrow, hnil, hb⟩
    have hk := keys_perm hown hr h20 (fun s hs => (hat s hs).1)
    have hl : ss.length = l.length := by rw [(hp.trans hk.symm).length_eq]; simp [keysD]
    refine ⟨v, rfl, own_cast (own_mono hrow (by simp)) hl (by rw [sort_keys hr hp hk, hmap]), hb⟩
end Go.Proofs.Ytdopmcepfacdlaa

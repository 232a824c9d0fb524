/- A folder's maps: names that stand for files: look up, len, store, delete, clone, keys. -/
import Derived.Test.YtdopmcepfacdlaaFdP
import Derived.Test.YtdopmcepfacdlaaLa
import Derived.Sort.KeysCollected
namespace Go.Proofs.Ytdopmcepfacdlaa
open Go.RowKit Go.Maps Go.Sort Go.Shelf

theorem lawS : Keyed Try.prog 9 := string_keyed Try.underlying9
theorem hkeyS {s : ByteArray} (h : s.size ≤ maxLen) : keyOf Try.prog 9 (.string s) = some (.string (bl s)) := by
  simp [keyOf, Try.underlying9, mapKey, bl, h]
def ptr (o : Option Nat) : Value := .pointer (o.map fun b => ⟨b, 0, none⟩)
def heldR (v : Value) : Option (DataW Value × List MemPlace) := some (.held v, [])
theorem zeroPtr (w : World) : (zeroValue 67).run Try.prog w = .ok (ptr none) w := by kernel_rfl
/-- A map of names as it lies. -/
def DirAt (w : World) (mb : Option Nat) (l : Dir) : Prop :=
  Rise l ∧ (∀ x ∈ l, x.1.size ≤ 20) ∧ ((mb = none ∧ l = []) ∨ ∃ b D, mb = some b ∧ w.ownsMap Try.prog 9 heldR b l.length D ∧ Maps.size D = l.length ∧
    ∀ s : ByteArray, s.size ≤ maxLen → Maps.has D (.string (bl s)) = (look l s).isSome ∧ D.atKey (.string (bl s)) (.held (ptr none)) = .held (ptr (look l s)))
section
variable {w w' : World} {mb : Option Nat} {b : Nat} {l : Dir}
theorem DirAt.lt (h : DirAt w mb l) : ∀ k, mb = some k → k < w.heap.size := fun k e => by
  rcases h.2.2 with ⟨rfl, _⟩ | ⟨b, D, rfl, hown, _⟩
  · cases e
  · cases e; exact hown.lt
theorem DirAt.map (h : DirAt w (some b) l) : ∃ es c, w.heap[b]? = some (.map es c) := by
  rcases h.2.2 with ⟨e, _⟩ | ⟨b', D, e, ⟨es, c, hb, _⟩, _⟩
  · cases e
  · cases e; exact ⟨es, c, hb⟩
theorem DirAt.bt (h : DirAt w mb l) {X : Nat → Prop} (hb : Bt X w w') (hx : ∀ k, mb = some k → ¬ X k) : DirAt w' mb l := by
  obtain ⟨h1, h2, h3 | ⟨b, D, rfl, hown, h4⟩⟩ := h
  · exact ⟨h1, h2, .inl h3⟩
  · have hlt := hown.lt
    obtain ⟨es, c, hbk, hr⟩ := hown
    exact ⟨h1, h2, .inr ⟨b, D, rfl, ⟨es, c, (hb.block b hlt (hx b rfl)).trans hbk, hr⟩, h4⟩⟩
theorem DirAt.gr (h : DirAt w mb l) (hg : Gr w w') : DirAt w' mb l := h.bt (X := fun _ => False) (.of hg) (fun _ _ z => z)
theorem DirAt.nil : DirAt w none [] := ⟨List.Pairwise.nil, (fun x hx => by cases hx), .inl ⟨rfl, rfl⟩⟩
theorem DirAt.made (w : World) : DirAt (w.alloc (.map #[] 0)) (some w.heap.size) [] :=
  ⟨List.Pairwise.nil, (fun x hx => by cases hx), .inr ⟨w.heap.size, .map [], rfl, World.ownsMap_made _ _ _ _, rfl, fun _ _ => ⟨rfl, rfl⟩⟩⟩
theorem DirAt.name (h : DirAt w mb l) {s : ByteArray} {n : Nat} (hl : look l s = some n) : s.size ≤ 20 := h.2.1 _ (look_mem hl)
set_option maxRecDepth 100000 in
theorem DirAt.look2 (h : DirAt w mb l) {s : ByteArray} (hs : s.size ≤ maxLen) :
    (Instr.lookup 61 (.map mb) (.string s) true).run Try.prog w = .ok (.tuple #[ptr (look l s), .bool (look l s).isSome]) w := by
  rcases h.2.2 with ⟨rfl, rfl⟩ | ⟨b, D, rfl, hown, _, hat⟩
  · rw [Maps.look_nil true lawS Try.underlying61 (zeroPtr w) (hkeyS hs)]; rfl
  · obtain ⟨v, ps, hrun, hv⟩ := hown.look_ok lawS Try.underlying61 (zeroPtr w) (zd := .held (ptr none)) (zp := []) rfl (hkeyS hs)
    obtain ⟨e1, e2⟩ := hat s hs
    rw [e2] at hv
    simp only [heldR, Option.some.injEq, Prod.mk.injEq, DataW.held.injEq] at hv
    rw [hrun, e1, hv.1]
set_option maxRecDepth 100000 in
theorem DirAt.look1 (h : DirAt w mb l) {s : ByteArray} (hs : s.size ≤ maxLen) :
    (Instr.lookup 61 (.map mb) (.string s) false).run Try.prog w = .ok (ptr (look l s)) w := by
  rcases h.2.2 with ⟨rfl, rfl⟩ | ⟨b, D, rfl, hown, _, hat⟩
  · rw [Maps.look_nil false lawS Try.underlying61 (zeroPtr w) (hkeyS hs)]; rfl
  · obtain ⟨es, clock, hb, F, _, rfl⟩ := hown
    obtain ⟨e1, e2⟩ := hat s hs
    rcases Maps.fit_look false lawS Try.underlying61 (zeroPtr w) hb F (hkeyS hs) with ⟨hrun, _, ha⟩ | ⟨e0, y, _, _, hrun, hRv, ha, _⟩
    · rw [ha] at e2
      injection e2 with e2
      rw [hrun, ← e2]; rfl
    · rw [ha] at e2
      simp only [heldR, Option.some.injEq] at hRv
      rw [← hRv] at e2
      injection e2 with e2
      rw [hrun, ← e2]; rfl
theorem DirAt.len (h : DirAt w mb l) (ty : TypeId) : (Builtin.len_ #[61] ty #[.map mb]).run Try.prog w = .ok (.int .i64 l.length) w := by
  rcases h.2.2 with ⟨rfl, rfl⟩ | ⟨b, D, rfl, hown, hs, _⟩
  · exact Maps.len_nil Try.underlying61 ty
  · rw [hown.len Try.underlying61 ty, hs]
theorem DirAt.store (h : DirAt w (some b) l) (hn : l.length < maxLen) {s : ByteArray} (hs : s.size ≤ 20) (n : Nat) :
    ∃ w', (Instr.mapUpdate 61 (.map (some b)) (.string s) (ptr (some n))).run Try.prog w = .ok () w' ∧ DirAt w' (some b) (insD l s n) ∧ w.grownBy w' (some b) := by
  obtain ⟨hr, h20, ⟨e, _⟩ | ⟨b', D, e, hown, hsz, hat⟩⟩ := h
  · cases e
  · cases e
    have hs' : s.size ≤ maxLen := by unfold maxLen; omega
    obtain ⟨w', hrun, hown', ht⟩ := hown.store lawS Try.underlying61 hn (hkeyS hs') (val := ptr (some n)) (d := .held (ptr (some n))) (ps := []) rfl
    have hk := lawS.key (hkeyS hs')
    have hm := hown.isMap
    have hsz' : Maps.size (D.put (.string (bl s)) (.held (ptr (some n)))) = (insD l s n).length := by
      rw [size_put (hown.tidy lawS), (hat s hs').1, hsz, len_ins l hr]
      split <;> rfl
    refine ⟨w', hrun, ⟨rise_ins hr s n, fun x hx => ?_, .inr ⟨b, _, rfl, ?_, hsz', fun t h3 => ?_⟩⟩, ht.grown⟩
    · rcases mem_ins hx with rfl | hx
      · exact hs
      · exact h20 x hx
    · obtain ⟨es, clock, e1, e2, e3, e4⟩ := hown'
      refine ⟨es, clock, e1, e2, ?_, e4⟩
      rw [e4] at hsz'
      have : Maps.size (DataW.map ((es.toList.map (Go.WideElems.rg Try.prog 9 heldR)).foldr DataW.insert [])) = es.size := by simp [Maps.size, length_sorted]
      omega
    · rw [look_ins l hr]
      by_cases e : t = s
      · subst e
        rw [if_pos rfl]
        exact ⟨has_put_same hm hk _, atKey_put_same hm hk _ _⟩
      · rw [if_neg e]
        have hne : (Lit.string (bl t)) ≠ .string (bl s) := fun he => e (bl_inj (by injection he))
        rw [has_put_other hne, atKey_put_other hne]
        exact hat t h3
theorem DirAt.drop (h : DirAt w (some b) l) {s : ByteArray} (hs : s.size ≤ maxLen) (ty : TypeId) :
    ∃ w', (Builtin.delete_ #[61, 9] ty #[.map (some b), .string s]).run Try.prog w = .ok (.tuple #[]) w' ∧ DirAt w' (some b) (delD l s) ∧ w.grownBy w' (some b) := by
  obtain ⟨hr, h20, ⟨e, _⟩ | ⟨b', D, e, hown, hsz, hat⟩⟩ := h
  · cases e
  · cases e
    obtain ⟨w', hrun, hown', ht⟩ := hown.drop lawS Try.underlying61 (hkeyS hs) ty
    have hsz' : Maps.size (D.del (.string (bl s))) = (delD l s).length := by
      have h1 := size_del (k := .string (bl s)) (hown.tidy lawS)
      rw [(hat s hs).1, hsz] at h1
      rw [len_del l hr]
      split at h1 <;> rename_i h2
      · rw [if_pos h2]; omega
      · rw [if_neg h2]; omega
    refine ⟨w', hrun, ⟨rise_del hr s, fun x hx => h20 x (List.mem_filter.1 hx).1, .inr ⟨b, _, rfl, ?_, hsz', fun t h3 => ?_⟩⟩, ht.grown⟩
    · obtain ⟨es, clock, e1, e2, e3, e4⟩ := hown'
      refine ⟨es, clock, e1, e2, ?_, e4⟩
      rw [e4] at hsz'
      have : Maps.size (DataW.map ((es.toList.map (Go.WideElems.rg Try.prog 9 heldR)).foldr DataW.insert [])) = es.size := by simp [Maps.size, length_sorted]
      omega
    · rw [look_del]
      by_cases e : t = s
      · subst e
        rw [if_pos rfl]
        exact ⟨has_del_same, atKey_del_same _⟩
      · rw [if_neg e]
        have hne : (Lit.string (bl t)) ≠ .string (bl s) := fun he => e (bl_inj (by injection he))
        rw [has_del_other hne, atKey_del_other hne]
        exact hat t h3
end
theorem clone_calls (w : World) (mb : Option Nat) (l : Dir) (h : DirAt w mb l) :
    Calls Try.prog 44 #[.map mb] w fun e w' => ∃ mb', e = .returned (.map mb') ∧ DirAt w' mb' l ∧ (∀ k, mb' = some k → w.heap.size ≤ k ∧ k < w'.heap.size) ∧ (mb' = none ↔ mb = none) ∧ Gr w w' := by
  obtain ⟨h1, h2, ⟨rfl, rfl⟩ | ⟨b, D, rfl, hown, h3⟩⟩ := h
  · refine (AnyW.maps_Clone_nil cloneF w).mono ?_
    rintro e w' ⟨rfl, rfl⟩
    exact ⟨none, rfl, .nil, (fun k e => by cases e), Iff.rfl, Gr.rfl'⟩
  · refine (AnyW.maps_Clone_owns cloneF 9 heldR b l.length D w hown).mono ?_
    rintro e w' ⟨rfl, o1, o2, hg⟩
    refine ⟨some w.heap.size, rfl, ⟨h1, h2, .inr ⟨_, D, rfl, o1, h3⟩⟩, fun k e => ?_, ⟨(fun e => by cases e), (fun e => by cases e)⟩, hg⟩
    cases e
    exact ⟨Nat.le_refl _, o1.lt⟩
/-- The names, in order. -/
def keysD (l : Dir) : List (List UInt8) := l.map fun x => bl x.1
theorem keysD_sorted {l : Dir} (h : Rise l) : (keysD l).Pairwise (· < ·) := List.pairwise_map.2 h
theorem keys_perm {w : World} {b n : Nat} {D : DataW Value} {l : Dir} (hown : w.ownsMap Try.prog 9 heldR b n D) (hr : Rise l) (h20 : ∀ x ∈ l, x.1.size ≤ 20) (hat : ∀ s : ByteArray, s.size ≤ maxLen → Maps.has D (.string (bl s)) = (look l s).isSome) : (keysD l).Perm (strKeys D) := by
  obtain ⟨es, rfl, hp, _⟩ := hown.entries lawS
  have hko := hown.keysOf
  obtain ⟨es', ee, hk⟩ := hko
  injection ee with ee; subst ee
  have hstr : ∀ p ∈ es, ∃ x, p.1 = Lit.string x ∧ x.length ≤ maxLen := fun p hp => by
    obtain ⟨key, hkey⟩ := hk p hp
    obtain ⟨x, _, e2, e3⟩ := keyOf_str Try.underlying9 hkey
    exact ⟨x, e2, e3⟩
  refine perm_strKeys hp (fun p hp => (hstr p hp).imp fun x h => h.1) ?_ (fun x => ?_)
  · exact (keysD_sorted hr).imp fun {a b} h e => by rw [e] at h; exact List.lt_irrefl _ h
  · constructor
    · intro hx
      obtain ⟨y, hy, rfl⟩ := List.mem_map.1 hx
      have := h20 y hy
      rw [hat y.1 (by unfold maxLen; omega), look_of hr (show (y.1, y.2) ∈ l from hy)]; rfl
    · intro hx
      have hx' := hx
      rw [has_eq, List.any_eq_true] at hx'
      obtain ⟨p, hp1, hp2⟩ := hx'
      obtain ⟨z, hz, hz2⟩ := hstr p hp1
      have e := WideAt.sameKey_eq hp2
      rw [hz] at e
      injection e with e
      have hxl : x.length ≤ maxLen := by rw [← e]; exact hz2
      have h1 := hat ⟨x.toArray⟩ (by simpa [ByteArray.size] using hxl)
      have h2 : bl ⟨x.toArray⟩ = x := by simp [bl]
      rw [h2, hx] at h1
      obtain ⟨n, hn⟩ := Option.isSome_iff_exists.1 h1.symm
      exact List.mem_map.2 ⟨_, look_mem hn, h2⟩
theorem sorts (m : Nat) : AnyZ.SortsIn Try.prog sortedF_ren Fence.wide m :=
  ⟨fun blk off cap ss W hH hblk hsz => callsIn_wide.2 (AnyM.slices_Sort_string sortF blk off cap ss W hH hblk hsz),
   fun p cap W => callsIn_wide.2 (AnyM.slices_Sort_string_none sortF p cap W)⟩
end Go.Proofs.Ytdopmcepfacdlaa

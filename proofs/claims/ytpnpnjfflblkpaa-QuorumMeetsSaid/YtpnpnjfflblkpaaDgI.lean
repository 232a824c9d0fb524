/- Lists of numbers: DeleteFunc at a function that only reads; maps whose keys are numbers. -/
import Derived.Test.YtpnpnjfflblkpaaSm
import Derived.Test.YtpnpnjfflblkpaaQmN
import Derived.Test.YtpnpnjfflblkpaaLc
import Derived.Shelf.SlicesE.DeleteFunc
namespace Go.Proofs.Ytpnpnjfflblkpaa
open Go.RowKit Go.Maps Go.Sort Go.Shelf

theorem bt_sort {w : World} {g n : Nat} {dk : Array Int} {os : Array Obj} : Bt (fun k => k = g) w (sortWorld (Value.int .i64) w g 0 n dk os) := by
  have h := grownBy_sortedI (w := w) (g := g) (n := n) (os := os) dk
  exact Bt.row h rfl
theorem idxi_none (fv : Value) (w : World) : Calls Try.prog 54 #[.slice none 0 0, fv] w fun e w' => e = .returned (.int .i64 (-1)) ∧ w = w' := by
  go_enter Try.func54, Try.ntmps54
  go_wp2_with fail
  go_loop [8] (fun iv => iv = .int .i64 0) (fun _ => 0)
  case atStart => rfl
  case round =>
    obtain rfl := hrel
    go_wp2_with fail
    go_ret
    exact ⟨rfl, rfl⟩
set_option maxHeartbeats 1000000 in
theorem deli_calls (cn : Nat) (cb : Array Value) (eg : ∀ args w, (callFunc cn args).run Try.prog w = .ok (.enter cn args) w) (P : Int → Bool) (l : List Int) (v : Value) (base : Nat) (w : World) (h : w.ownsRow base 3 1 v l.length (encI l)) (hk : l.length ≤ 1000000)
    (hcl : ∀ W x, Bt (fun k => v.ownBlock = some k) w W → Calls Try.prog cn (#[.int .i64 x] ++ cb) W fun e w' => e = .returned (.bool (P x)) ∧ ∃ q, w' = W.drewN q) :
    Calls Try.prog 38 #[v, .func (.func cn) #[] cb] w fun e w' => ∃ v', e = .returned v' ∧ w'.ownsRow base 3 1 v' (l.filter fun x => !P x).length (encI (l.filter fun x => !P x)) ∧ w.grownBy w' v.ownBlock := by
  rcases own_form h rfl with ⟨rfl, rfl⟩ | ⟨g, cap, cur, rfl, hb, hg, hn, hm, hs, ht⟩
  · clear eg hcl h
    go_enter Try.func38, Try.ntmps38
    go_wp2_with fail
    refine (idxi_none _ _).mono ?_
    rintro e w1 ⟨rfl, rfl⟩
    go_wp2_with fail
    go_ret
    exact ⟨_, rfl, World.ownsRow_nil _ _ _ _, ⟨rfl, rfl, rfl, Nat.le_refl _, fun _ _ _ => rfl⟩⟩
  · have hp : PredAt Try.prog cn cb (Value.int .i64) P w := fun W x hbw => hcl W x (.of hbw)
    have hpo : PredOver Try.prog cn cb (Value.int .i64) P g 0 l.toArray.size w := fun n os dk x _ => hcl _ x (bt_sort.mono fun k _ e => by rw [e]; rfl)
    have hd := AnyE.slices_DeleteFunc delF (Value.int .i64) (fun _ => rfl) P cn cb eg 0 (fun w => Try.zeroValue3 w) g 0 cap l.toArray w hp hpo (holds_of_blockI hg ht) (by simp; omega) (by simpa using hn)
    change Calls Try.prog 38 _ _ _ at hd
    have e0 : l.toArray.size = l.length := by simp
    rw [e0] at hd
    refine hd.mono ?_
    rintro e w' ⟨rfl, q, rfl⟩
    have hle := List.length_filter_le (fun x => !P x) l
    refine ⟨_, rfl, ?_, ?_⟩
    · have h1 := ownsRow_sortedI (n := q) (os := #[]) (ts := (l.filter fun x => !P x) ++ List.replicate (l.length - (l.filter fun x => !P x).length) 0) (by simp; omega) hb hg hn hm hs
      rw [grow_empty] at h1
      rcases h1.2 with ⟨z, _⟩ | ⟨g', cap', cur', hv, hb', hg', hn', hm', hs', ht'⟩
      · cases z
      cases hv
      refine ⟨by rw [encI_map]; simp, .inr ⟨g, cap, cur', rfl, hb', hg', by omega, hm', hs', ?_⟩⟩
      rw [Nat.mul_one] at ht' ⊢
      have e2 : cur'.toList.take (l.filter fun x => !P x).length = (cur'.toList.take l.length).take (l.filter fun x => !P x).length := by rw [List.take_take, Nat.min_eq_left hle]
      show cur'.toList.take (l.filter fun x => !P x).length = _
      rw [e2, ht', encI_map, List.map_append, List.take_left' (by simp)]
    · have := grownBy_sortedI (w := w) (g := g) (n := q) (os := #[]) ((l.filter fun x => !P x) ++ List.replicate (l.length - (l.filter fun x => !P x).length) 0).toArray
      rwa [grow_empty] at this
/-- A number that fits, as it is; another as 0: the library's law asks the function at every number, the closure answers only at those that fit. -/
instance (x : Int) : Decidable (I64 x) := by unfold I64; exact inferInstance
def clip (x : Int) : Int := if I64 x then x else 0
theorem clip_i (x : Int) : I64 (clip x) := by
  unfold clip
  split
  · assumption
  · unfold I64; omega
theorem clip_eq {x : Int} (h : I64 x) : clip x = x := if_pos h
def encC (x : Int) : Value := .int .i64 (clip x)
theorem putCells_clip (off : Nat) (d : Array Int) : putCells encC off d = putCells (Value.int .i64) off (d.map clip) := by
  funext cur
  unfold putCells
  congr 1
  funext j v
  by_cases h : off ≤ j ∧ j < off + d.size
  · have h' : j - off < d.size := by omega
    have h2 : off ≤ j ∧ j < off + (d.map clip).size := by simpa using h
    rw [if_pos h, if_pos h2, getElem!_pos d _ h', getElem!_pos (d.map clip) _ (by simpa using h'), Array.getElem_map]; rfl
  · have h2 : ¬ (off ≤ j ∧ j < off + (d.map clip).size) := by simpa using h
    rw [if_neg h, if_neg h2]
theorem putRow_clip (w : World) (blk off : Nat) (d : Array Int) : putRow encC w blk off d = putRow (Value.int .i64) w blk off (d.map clip) := by
  unfold putRow; rw [putCells_clip]
theorem clip_map {l : List Int} (h : ∀ x ∈ l, I64 x) : l.map clip = l := by
  conv => rhs; rw [← List.map_id l]
  exact List.map_congr_left fun x hx => clip_eq (h x hx)
set_option maxHeartbeats 1000000 in
/-- DeleteFunc over numbers that fit, at a function that answers at those. -/
theorem deli64_calls (cn : Nat) (cb : Array Value) (eg : ∀ args w, (callFunc cn args).run Try.prog w = .ok (.enter cn args) w) (P : Int → Bool) (l : List Int) (hI : ∀ x ∈ l, I64 x) (v : Value) (base : Nat) (w : World) (h : w.ownsRow base 3 1 v l.length (encI l)) (hk : l.length ≤ 1000000)
    (hcl : ∀ W x, I64 x → Bt (fun k => v.ownBlock = some k) w W → Calls Try.prog cn (#[.int .i64 x] ++ cb) W fun e w' => e = .returned (.bool (P x)) ∧ ∃ q, w' = W.drewN q) :
    Calls Try.prog 38 #[v, .func (.func cn) #[] cb] w fun e w' => ∃ v', e = .returned v' ∧ w'.ownsRow base 3 1 v' (l.filter fun x => !P x).length (encI (l.filter fun x => !P x)) ∧ w.grownBy w' v.ownBlock := by
  rcases own_form h rfl with ⟨rfl, rfl⟩ | ⟨g, cap, cur, rfl, hb, hg, hn, hm, hs, ht⟩
  · clear eg hcl h hI
    go_enter Try.func38, Try.ntmps38
    go_wp2_with fail
    refine (idxi_none _ _).mono ?_
    rintro e w1 ⟨rfl, rfl⟩
    go_wp2_with fail
    go_ret
    exact ⟨_, rfl, World.ownsRow_nil _ _ _ _, ⟨rfl, rfl, rfl, Nat.le_refl _, fun _ _ _ => rfl⟩⟩
  · have hp : PredAt Try.prog cn cb encC (fun x => P (clip x)) w := fun W x hbw => hcl W (clip x) (clip_i x) (.of hbw)
    have hpo : PredOver Try.prog cn cb encC (fun x => P (clip x)) g 0 l.toArray.size w := fun n os dk x hx => hcl _ (clip x) (clip_i x) (by
      have hh : Bt (fun k => k = g) w (sortWorld encC w g 0 n dk os) := by
        unfold sortWorld; rw [putRow_clip]
        exact bt_sort
      exact hh.mono fun k _ e => by rw [e]; rfl)
    have hH : Holds encC w g 0 l.toArray := fun j hj => by
      have h1 := holds_of_blockI hg ht j hj
      refine ⟨?_, h1.2⟩
      have hj' : j < l.length := by simpa using hj
      rw [h1.1]
      unfold encC
      rw [clip_eq]
      rw [getElem!_pos l.toArray j hj]
      exact hI _ (by simp)
    have hd := AnyE.slices_DeleteFunc delF encC (fun _ => rfl) (fun x => P (clip x)) cn cb eg 0 (fun w => (Try.zeroValue3 w).trans (by rw [encC, clip_eq (by unfold I64; omega)])) g 0 cap l.toArray w hp hpo hH (by simp; omega) (by simpa using hn)
    change Calls Try.prog 38 _ _ _ at hd
    have e0 : l.toArray.size = l.length := by simp
    have eF : (l.toArray.toList.filter fun x => !P (clip x)) = l.filter fun x => !P x := List.filter_congr fun x hx => by rw [clip_eq (hI x hx)]
    rw [e0, eF] at hd
    refine hd.mono ?_
    rintro e w' ⟨rfl, q, rfl⟩
    have hle := List.length_filter_le (fun x => !P x) l
    rw [putRow_clip]
    have eM : ((l.filter fun x => !P x) ++ List.replicate (l.length - (l.filter fun x => !P x).length) 0).toArray.map clip = ((l.filter fun x => !P x) ++ List.replicate (l.length - (l.filter fun x => !P x).length) 0).toArray := by
      rw [List.map_toArray, clip_map]
      intro x hx
      rcases List.mem_append.1 hx with hx | hx
      · exact hI x (List.mem_filter.1 hx).1
      · rw [(List.mem_replicate.1 hx).2]; unfold I64; omega
    rw [eM]
    refine ⟨_, rfl, ?_, ?_⟩
    · have h1 := ownsRow_sortedI (n := q) (os := #[]) (ts := (l.filter fun x => !P x) ++ List.replicate (l.length - (l.filter fun x => !P x).length) 0) (by simp; omega) hb hg hn hm hs
      rw [grow_empty] at h1
      rcases h1.2 with ⟨z, _⟩ | ⟨g', cap', cur', hv, hb', hg', hn', hm', hs', ht'⟩
      · cases z
      cases hv
      refine ⟨by rw [encI_map]; simp, .inr ⟨g, cap, cur', rfl, hb', hg', by omega, hm', hs', ?_⟩⟩
      rw [Nat.mul_one] at ht' ⊢
      have e2 : cur'.toList.take (l.filter fun x => !P x).length = (cur'.toList.take l.length).take (l.filter fun x => !P x).length := by rw [List.take_take, Nat.min_eq_left hle]
      show cur'.toList.take (l.filter fun x => !P x).length = _
      rw [e2, ht', encI_map, List.map_append, List.take_left' (by simp)]
    · have := grownBy_sortedI (w := w) (g := g) (n := q) (os := #[]) ((l.filter fun x => !P x) ++ List.replicate (l.length - (l.filter fun x => !P x).length) 0).toArray
      rwa [grow_empty] at this
/-- How an element is read: as itself. -/
def heldR (v : Value) : Option (DataW Value × List MemPlace) := some (.held v, [])
theorem lawI : Keyed Try.prog 3 := int_keyed Try.underlying3
def keyI (n : Int) : Lit := .int .i64 n
theorem hkeyI {n : Int} (h : I64 n) : keyOf Try.prog 3 (.int .i64 n) = some (keyI n) := keyOf_int_mk Try.underlying3 (WalkArith.wf_i64 h)
theorem keyI_inj {a b : Int} (h : keyI a = keyI b) : a = b := by unfold keyI at h; injection h
/-- A map of numbers as it lies: what it holds (f), how many. -/
def ImAt (Z : Value) (w : World) (mb : Option Nat) (f : Int → Option Value) (n : Nat) : Prop :=
  (mb = none ∧ n = 0 ∧ ∀ k, f k = none) ∨
  ∃ b D, mb = some b ∧ w.ownsMap Try.prog 3 heldR b n D ∧ Maps.size D = n ∧ ∀ k, I64 k → Maps.has D (keyI k) = (f k).isSome ∧ D.atKey (keyI k) (.held Z) = .held ((f k).getD Z)
section
variable {Z : Value} {w w' : World} {mb : Option Nat} {b : Nat} {f : Int → Option Value} {n : Nat} {T E : TypeId}
theorem ImAt.lt (h : ImAt Z w mb f n) : ∀ k, mb = some k → k < w.heap.size := fun k e => by
  rcases h with ⟨rfl, _⟩ | ⟨b, D, rfl, hown, _⟩
  · cases e
  · cases e; exact hown.lt
theorem ImAt.map (h : ImAt Z w (some b) f n) : ∃ es c, w.heap[b]? = some (.map es c) := by
  rcases h with ⟨e, _⟩ | ⟨b', D, e, ⟨es, c, hb, _⟩, _⟩
  · cases e
  · cases e; exact ⟨es, c, hb⟩
theorem ImAt.bt (h : ImAt Z w mb f n) {X : Nat → Prop} (hb : Bt X w w') (hx : ∀ k, mb = some k → ¬ X k) : ImAt Z w' mb f n := by
  rcases h with h3 | ⟨b, D, rfl, hown, h4⟩
  · exact .inl h3
  · have hlt := hown.lt
    obtain ⟨es, c, hbk, hr⟩ := hown
    exact .inr ⟨b, D, rfl, ⟨es, c, (hb.block b hlt (hx b rfl)).trans hbk, hr⟩, h4⟩
theorem ImAt.gr (h : ImAt Z w mb f n) (hg : Gr w w') : ImAt Z w' mb f n := h.bt (X := fun _ => False) (.of hg) (fun _ _ z => z)
theorem ImAt.made (w : World) : ImAt Z (w.alloc (.map #[] 0)) (some w.heap.size) (fun _ => none) 0 :=
  .inr ⟨w.heap.size, .map [], rfl, World.ownsMap_made _ _ _ _, rfl, fun _ _ => ⟨rfl, rfl⟩⟩
theorem ImAt.nil : ImAt Z w none (fun _ => none) 0 := .inl ⟨rfl, rfl, fun _ => rfl⟩
set_option maxRecDepth 100000 in
theorem ImAt.look (h : ImAt Z w mb f n) (hT : Try.prog.underlying T = some (.map 3 E)) (hZ : ∀ w, (zeroValue E).run Try.prog w = .ok Z w) {k : Int} (hk : I64 k) : (Instr.lookup T (.map mb) (.int .i64 k) false).run Try.prog w = .ok ((f k).getD Z) w := by
  rcases h with ⟨rfl, _, hf⟩ | ⟨b, D, rfl, hown, _, hat⟩
  · rw [Maps.look_nil false lawI hT (hZ w) (hkeyI hk), hf]; rfl
  · obtain ⟨es, clock, hb, F, _, rfl⟩ := hown
    obtain ⟨e1, e2⟩ := hat k hk
    rcases Maps.fit_look false lawI hT (hZ w) hb F (hkeyI hk) with ⟨hrun, _, ha⟩ | ⟨e0, y, _, _, hrun, hRv, ha, _⟩
    · rw [ha] at e2
      injection e2 with e2
      rw [hrun, ← e2]; rfl
    · rw [ha] at e2
      simp only [heldR, Option.some.injEq] at hRv
      rw [← hRv] at e2
      injection e2 with e2
      rw [hrun, ← e2]; rfl
theorem ImAt.len (h : ImAt Z w mb f n) (hT : Try.prog.underlying T = some (.map 3 E)) (ty : TypeId) : (Builtin.len_ #[T] ty #[.map mb]).run Try.prog w = .ok (.int .i64 n) w := by
  rcases h with ⟨rfl, rfl, _⟩ | ⟨b, D, rfl, hown, hs, _⟩
  · exact Maps.len_nil hT ty
  · rw [hown.len hT ty, hs]
theorem ImAt.store (h : ImAt Z w (some b) f n) (hT : Try.prog.underlying T = some (.map 3 E)) (hn : n < maxLen) {k : Int} (hk : I64 k) (v : Value) :
    ∃ w', (Instr.mapUpdate T (.map (some b)) (.int .i64 k) v).run Try.prog w = .ok () w' ∧ ImAt Z w' (some b) (fun j => if j = k then some v else f j) (if (f k).isSome then n else n + 1) ∧ w.grownBy w' (some b) := by
  rcases h with ⟨e, _⟩ | ⟨b', D, e, hown, hs, hat⟩
  · cases e
  · cases e
    obtain ⟨w', hrun, hown', ht⟩ := hown.store lawI hT hn (hkeyI hk) (val := v) (d := .held v) (ps := []) rfl
    have hkl := lawI.key (hkeyI hk)
    have hm := hown.isMap
    have hsz : Maps.size (D.put (keyI k) (.held v)) = if (f k).isSome then n else n + 1 := by
      rw [size_put (hown.tidy lawI), (hat k hk).1, hs]
    refine ⟨w', hrun, .inr ⟨b, _, rfl, ?_, hsz, fun j hj => ?_⟩, ht.grown⟩
    · obtain ⟨es, clock, e1, e2, e3, e4⟩ := hown'
      refine ⟨es, clock, e1, e2, ?_, e4⟩
      have : Maps.size (D.put (keyI k) (.held v)) = es.size := by rw [e4]; simp [Maps.size, length_sorted]
      omega
    · by_cases e : j = k
      · subst e
        simp only [if_true]
        exact ⟨has_put_same hm hkl _, atKey_put_same hm hkl _ _⟩
      · simp only [if_neg e]
        have hne : keyI j ≠ keyI k := fun he => e (keyI_inj he)
        rw [has_put_other hne, atKey_put_other hne]
        exact hat j hj
end
end Go.Proofs.Ytpnpnjfflblkpaa

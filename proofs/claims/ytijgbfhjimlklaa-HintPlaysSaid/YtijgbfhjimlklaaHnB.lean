/- The map of hints: look up, len, store, delete, ranges. -/
import Derived.Test.YtijgbfhjimlklaaHnA
namespace Go.Proofs.Ytijgbfhjimlklaa
open Go.RowKit Go.Maps

def heldR (v : Value) : Option (DataW Value × List MemPlace) := some (.held v, [])
theorem zeroB (w : World) : (zeroValue 4).run Try.prog w = .ok (.bool false) w := by kernel_rfl
def delH (L : List Hk) (x : Hk) : List Hk := L.filter fun y => decide (y ≠ x)
/-- What a map's data say: it holds these, and no others. -/
structure SetD (D : DataW Value) (L : List Hk) : Prop where
  size : Maps.size D = L.length
  at_ : ∀ x, HkI x → Maps.has D (keyH x) = decide (x ∈ L) ∧ D.atKey (keyH x) (.held (.bool false)) = .held (.bool (decide (x ∈ L)))
def HsAt (w : World) (mb : Option Nat) (L : List Hk) : Prop :=
  L.Nodup ∧ (∀ x ∈ L, HkI x) ∧ ((mb = none ∧ L = []) ∨ ∃ b D, mb = some b ∧ w.ownsMap Try.prog 66 heldR b L.length D ∧ SetD D L)
theorem delH_len {L : List Hk} (hn : L.Nodup) (x : Hk) : (delH L x).length + (if x ∈ L then 1 else 0) = L.length := by
  induction L with
  | nil => rfl
  | cons y r ih =>
    rw [List.nodup_cons] at hn
    have ih := ih hn.2
    unfold delH at ih ⊢
    rw [List.filter_cons]
    by_cases e : y = x
    · subst e
      rw [if_neg (by simp)]
      rw [if_neg hn.1] at ih
      rw [if_pos (List.mem_cons_self ..), List.length_cons]
      omega
    · rw [if_pos (by simp [e]), List.length_cons, List.length_cons]
      by_cases h : x ∈ r
      · rw [if_pos h] at ih
        rw [if_pos (List.mem_cons_of_mem _ h)]
        omega
      · rw [if_neg h] at ih
        rw [if_neg (fun z => (List.mem_cons.1 z).elim (fun z => e z.symm) h)]
        omega
theorem delH_not {L : List Hk} {x : Hk} (h : x ∉ L) : delH L x = L := List.filter_eq_self.2 (fun y hy => by simp; intro e; rw [e] at hy; exact h hy)
theorem mem_delH {L : List Hk} {x y : Hk} : y ∈ delH L x ↔ y ∈ L ∧ y ≠ x := by unfold delH; rw [List.mem_filter]; simp
section
variable {w w' : World} {mb : Option Nat} {b : Nat} {L L' : List Hk} {D : DataW Value}
theorem SetD.perm (h : SetD D L) (hp : L.Perm L') : SetD D L' := ⟨by rw [h.size, hp.length_eq], fun x hx => by
  have e : decide (x ∈ L) = decide (x ∈ L') := decide_eq_decide.2 hp.mem_iff
  rw [← e]; exact h.at_ x hx⟩
theorem HsAt.perm (h : HsAt w mb L) (hp : L.Perm L') : HsAt w mb L' := by
  obtain ⟨h1, h2, h3⟩ := h
  refine ⟨hp.nodup_iff.1 h1, fun x hx => h2 x (hp.mem_iff.2 hx), ?_⟩
  rcases h3 with ⟨e1, rfl⟩ | ⟨b, D, e, h3, h4⟩
  · exact .inl ⟨e1, hp.symm.eq_nil⟩
  · exact .inr ⟨b, D, e, by rw [← hp.length_eq]; exact h3, h4.perm hp⟩
theorem HsAt.lt (h : HsAt w mb L) : ∀ k, mb = some k → k < w.heap.size := fun k e => by
  rcases h.2.2 with ⟨rfl, _⟩ | ⟨b, D, rfl, hown, _⟩
  · cases e
  · cases e; exact hown.lt
theorem HsAt.bt (h : HsAt w mb L) {X : Nat → Prop} (hb : Bt X w w') (hx : ∀ k, mb = some k → ¬ X k) : HsAt w' mb L := by
  obtain ⟨h1, h2, h3 | ⟨b, D, rfl, hown, h4⟩⟩ := h
  · exact ⟨h1, h2, .inl h3⟩
  · have hlt := hown.lt
    obtain ⟨es, c, hbk, hr⟩ := hown
    exact ⟨h1, h2, .inr ⟨b, D, rfl, ⟨es, c, (hb.block b hlt (hx b rfl)).trans hbk, hr⟩, h4⟩⟩
theorem HsAt.gr (h : HsAt w mb L) (hg : Gr w w') : HsAt w' mb L := h.bt (X := fun _ => False) (.of hg) (fun _ _ z => z)
theorem HsAt.made (w : World) : HsAt (w.alloc (.map #[] 0)) (some w.heap.size) [] :=
  ⟨List.nodup_nil, (fun x hx => by cases hx), .inr ⟨w.heap.size, .map [], rfl, World.ownsMap_made _ _ _ _, ⟨rfl, fun _ _ => ⟨rfl, rfl⟩⟩⟩⟩
set_option maxRecDepth 100000 in
theorem HsAt.look (h : HsAt w mb L) {x : Hk} (hx : HkI x) :
    (Instr.lookup 60 (.map mb) (hkV x) false).run Try.prog w = .ok (.bool (decide (x ∈ L))) w := by
  rcases h.2.2 with ⟨rfl, rfl⟩ | ⟨b, D, rfl, hown, hat⟩
  · rw [Maps.look_nil false lawK Try.underlying60 (zeroB w) (hkeyH hx)]; rfl
  · obtain ⟨es, clock, hb, F, _, rfl⟩ := hown
    obtain ⟨e1, e2⟩ := hat.at_ x hx
    rcases Maps.fit_look false lawK Try.underlying60 (zeroB w) hb F (hkeyH hx) with ⟨hrun, _, ha⟩ | ⟨e0, y, _, _, hrun, hRv, ha, _⟩
    · rw [ha] at e2
      injection e2 with e2
      rw [hrun, ← e2]; rfl
    · rw [ha] at e2
      simp only [heldR, Option.some.injEq] at hRv
      rw [← hRv] at e2
      injection e2 with e2
      rw [hrun, ← e2]; rfl
theorem HsAt.len (h : HsAt w mb L) (ty : TypeId) : (Builtin.len_ #[60] ty #[.map mb]).run Try.prog w = .ok (.int .i64 L.length) w := by
  rcases h.2.2 with ⟨rfl, rfl⟩ | ⟨b, D, rfl, hown, hat⟩
  · exact Maps.len_nil Try.underlying60 ty
  · rw [hown.len Try.underlying60 ty, hat.size]
theorem own_tight {n m : Nat} (h : w.ownsMap Try.prog 66 heldR b n D) (hs : Maps.size D = m) : w.ownsMap Try.prog 66 heldR b m D := by
  obtain ⟨es, clock, e1, e2, e3, e4⟩ := h
  refine ⟨es, clock, e1, e2, ?_, e4⟩
  rw [e4] at hs
  have : Maps.size (DataW.map ((es.toList.map (Go.WideElems.rg Try.prog 66 heldR)).foldr DataW.insert [])) = es.size := by simp [Maps.size, length_sorted]
  omega
theorem HsAt.store (h : HsAt w (some b) L) (hn : L.length < maxLen) {x : Hk} (hx : HkI x) (hnew : x ∉ L) :
    ∃ w', (Instr.mapUpdate 60 (.map (some b)) (hkV x) (.bool true)).run Try.prog w = .ok () w' ∧ HsAt w' (some b) (L ++ [x]) ∧ w.grownBy w' (some b) := by
  obtain ⟨h1, h2, ⟨e, _⟩ | ⟨b', D, e, hown, hat⟩⟩ := h
  · cases e
  · cases e
    obtain ⟨w', hrun, hown', ht⟩ := hown.store lawK Try.underlying60 hn (hkeyH hx) (val := .bool true) (d := .held (.bool true)) (ps := []) rfl
    have hk := lawK.key (hkeyH hx)
    have hm := hown.isMap
    have h0 : Maps.has D (keyH x) = false := by rw [(hat.at_ x hx).1]; exact decide_eq_false hnew
    have hsz : Maps.size (D.put (keyH x) (.held (.bool true))) = (L ++ [x]).length := by
      rw [size_put (hown.tidy lawK), h0, hat.size, List.length_append]; rfl
    refine ⟨w', hrun, ⟨?_, fun y hy => ?_, .inr ⟨b, _, rfl, own_tight hown' hsz, ⟨hsz, fun y hy => ?_⟩⟩⟩, ht.grown⟩
    · rw [List.nodup_append]
      exact ⟨h1, by simp, fun a ha c hc e => hnew (by rw [List.mem_singleton.1 hc] at e; rw [← e]; exact ha)⟩
    · rcases List.mem_append.1 hy with hy | hy
      · exact h2 y hy
      · rw [List.mem_singleton.1 hy]; exact hx
    · by_cases e : y = x
      · subst e
        have : decide (y ∈ L ++ [y]) = true := decide_eq_true (by simp)
        rw [this]
        exact ⟨has_put_same hm hk _, atKey_put_same hm hk _ _⟩
      · have hne : keyH y ≠ keyH x := fun he => e (keyH_inj hy hx he)
        have : decide (y ∈ L ++ [x]) = decide (y ∈ L) := decide_eq_decide.2 (by simp [e])
        rw [has_put_other hne, atKey_put_other hne, this]
        exact hat.at_ y hy
theorem SetD.del (h : SetD D L) (hn : L.Nodup) (ht : Tidy D) {x : Hk} (hx : HkI x) : SetD (D.del (keyH x)) (delH L x) := by
  refine ⟨?_, fun y hy => ?_⟩
  · have h1 := size_del (k := keyH x) ht
    have h2 := delH_len hn x
    rw [(h.at_ x hx).1, h.size] at h1
    by_cases e : x ∈ L
    · rw [if_pos (decide_eq_true e)] at h1; rw [if_pos e] at h2; omega
    · rw [if_neg (by simp [e])] at h1; rw [if_neg e] at h2; omega
  · by_cases e : y = x
    · subst e
      have : decide (y ∈ delH L y) = false := decide_eq_false (fun z => (mem_delH.1 z).2 rfl)
      rw [this]
      exact ⟨has_del_same, atKey_del_same _⟩
    · have hne : keyH y ≠ keyH x := fun he => e (keyH_inj hy hx he)
      have : decide (y ∈ delH L x) = decide (y ∈ L) := decide_eq_decide.2 (by rw [mem_delH]; simp [e])
      rw [has_del_other hne, atKey_del_other hne, this]
      exact h.at_ y hy
theorem HsAt.drop (h : HsAt w (some b) L) {x : Hk} (hx : HkI x) :
    ∃ w', (∀ ty, (Builtin.delete_ #[60, 66] ty #[.map (some b), hkV x]).run Try.prog w = .ok (.tuple #[]) w') ∧ HsAt w' (some b) (delH L x) ∧ w.grownBy w' (some b) := by
  obtain ⟨h1, h2, ⟨e, _⟩ | ⟨b', D, e, hown, hat⟩⟩ := h
  · cases e
  · cases e
    obtain ⟨w', hrun, hown', ht⟩ := hown.drop lawK Try.underlying60 (hkeyH hx) 0
    have hd := hat.del h1 (hown.tidy lawK) hx
    exact ⟨w', fun _ => hrun, ⟨h1.filter _, fun y hy => h2 y (mem_delH.1 hy).1, .inr ⟨b, _, rfl, own_tight hown' hd.size, hd⟩⟩, ht.grown⟩
end
/-- What a range over hints has met. -/
structure MetH (L : List Hk) (left : Lit → Bool) (d : List Hk) : Prop where
  nd : d.Nodup
  mem : ∀ x, x ∈ d ↔ x ∈ L ∧ left (keyH x) = false
theorem MetH.start {L : List Hk} (hi : ∀ x ∈ L, HkI x) {D : DataW Value} (h : SetD D L) : MetH L (Maps.has D) [] :=
  ⟨List.nodup_nil, fun x => ⟨(fun z => by cases z), fun z => by have := (h.at_ x (hi x z.1)).1; rw [z.2] at this; exact absurd this (by simp [z.1])⟩⟩
theorem MetH.done {L d : List Hk} {left : Lit → Bool} (h : MetH L left d) (hL : L.Nodup) (h0 : ∀ kl, left kl = false) : d.Perm L :=
  (List.perm_ext_iff_of_nodup h.nd hL).2 fun x => by rw [h.mem]; exact ⟨fun z => z.1, fun z => ⟨z, h0 _⟩⟩
theorem key_same {x y : Hk} (h1 : HkI x) (h2 : HkI y) : (keyH x).sameKey (keyH y) = decide (x = y) := by
  by_cases e : x = y
  · subst e; rw [decide_eq_true rfl]; exact WideAt.sameKey_self (lawK.key (hkeyH h1))
  · rw [decide_eq_false e]
    cases h : (keyH x).sameKey (keyH y) with
    | false => rfl
    | true => exact absurd (keyH_inj h1 h2 (WideAt.sameKey_eq h)) e
theorem MetH.step {L d : List Hk} {left : Lit → Bool} (h : MetH L left d) (hi : ∀ x ∈ L, HkI x) {y : Hk} (hm : y ∈ L) (hl : left (keyH y) = true) : MetH L (fun z => left z && !z.sameKey (keyH y)) (d ++ [y]) := by
  constructor
  · rw [List.nodup_append]
    refine ⟨h.nd, by simp, fun a ha c hc e => ?_⟩
    rw [List.mem_singleton] at hc
    have := ((h.mem a).1 ha).2
    rw [e, hc, hl] at this; cases this
  · intro x
    rw [List.mem_append, List.mem_singleton, h.mem]
    constructor
    · rintro (⟨h1, h2⟩ | rfl)
      · exact ⟨h1, by show (left _ && !_) = false; rw [h2]; rfl⟩
      · exact ⟨hm, by show (left _ && !_) = false; rw [key_same (hi x hm) (hi x hm), decide_eq_true rfl]; simp⟩
    · rintro ⟨h1, h2⟩
      by_cases e : x = y
      · exact .inr e
      · left
        refine ⟨h1, ?_⟩
        change (left (keyH x) && !(keyH x).sameKey (keyH y)) = false at h2
        rw [key_same (hi x h1) (hi y hm), decide_eq_false e] at h2
        simpa using h2
theorem MetH.mono {L d : List Hk} {left : Lit → Bool} (h : MetH L left d) {left' : Lit → Bool} (he : ∀ x ∈ L, left' (keyH x) = left (keyH x)) : MetH L left' d :=
  ⟨h.nd, fun x => by rw [h.mem]; exact ⟨fun z => ⟨z.1, (he x z.1).trans z.2⟩, fun z => ⟨z.1, (he x z.1).symm.trans z.2⟩⟩⟩
end Go.Proofs.Ytijgbfhjimlklaa

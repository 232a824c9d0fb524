/- A folder, plain: names that stand for files, in rising order; what happens to names. No program in sight. -/
import Derived.Test.YtdopmcepfacdlaaGn
namespace Go.Proofs.Ytdopmcepfacdlaa

/-- A name's bytes. -/
def bl (s : ByteArray) : List UInt8 := s.data.toList
theorem bl_inj {a b : ByteArray} (h : bl a = bl b) : a = b := by
  obtain ⟨⟨a⟩⟩ := a; obtain ⟨⟨b⟩⟩ := b
  simp only [bl] at h
  rw [h]
theorem bl_tri {a b : ByteArray} (h1 : ¬ bl a < bl b) (h2 : a ≠ b) : bl b < bl a := by
  by_cases h : bl b < bl a
  · exact h
  · exact absurd (bl_inj (List.le_antisymm h h1)) h2
theorem bl_ne {a b : ByteArray} (h : bl a < bl b) : a ≠ b := fun e => by rw [e] at h; exact List.lt_irrefl _ h
/-- Names, by rising bytes, each with its file's number. -/
abbrev Dir := List (ByteArray × Nat)
def look : Dir → ByteArray → Option Nat
  | [], _ => none
  | (k, v) :: r, s => if k = s then some v else look r s
def delD (l : Dir) (s : ByteArray) : Dir := l.filter fun x => decide (x.1 ≠ s)
def insD : Dir → ByteArray → Nat → Dir
  | [], s, n => [(s, n)]
  | (k, v) :: r, s, n => if k = s then (s, n) :: r else if bl s < bl k then (s, n) :: (k, v) :: r else (k, v) :: insD r s n
def Rise (l : Dir) : Prop := l.Pairwise fun a b => bl a.1 < bl b.1
theorem look_mem : ∀ {l : Dir} {s : ByteArray} {n : Nat}, look l s = some n → (s, n) ∈ l
  | [], _, _, h => by cases h
  | (k, v) :: r, s, n, h => by
    unfold look at h
    split at h
    · rename_i e; injection h with h; rw [e, h]; exact List.mem_cons_self ..
    · exact List.mem_cons_of_mem _ (look_mem h)
theorem look_of : ∀ {l : Dir} {s : ByteArray} {n : Nat}, Rise l → (s, n) ∈ l → look l s = some n
  | [], _, _, _, h => by cases h
  | (k, v) :: r, s, n, hr, h => by
    unfold Rise at hr
    rw [List.pairwise_cons] at hr
    unfold look
    rcases List.mem_cons.1 h with e | e
    · injection e with e1 e2; rw [if_pos e1.symm, e2]
    · have := bl_ne (hr.1 _ e)
      rw [if_neg this]
      exact look_of hr.2 e
theorem look_none : ∀ {l : Dir} {s : ByteArray}, look l s = none ↔ ∀ x ∈ l, x.1 ≠ s
  | [], _ => by simp [look]
  | (k, v) :: r, s => by
    unfold look
    by_cases e : k = s
    · rw [if_pos e]
      constructor
      · intro h; cases h
      · intro h; exact absurd e (h _ (List.mem_cons_self ..))
    · rw [if_neg e, look_none]
      constructor
      · intro h x hx
        rcases List.mem_cons.1 hx with rfl | hx
        · exact e
        · exact h x hx
      · intro h x hx; exact h x (List.mem_cons_of_mem _ hx)
theorem look_del : ∀ (l : Dir) (s t : ByteArray), look (delD l s) t = if t = s then none else look l t
  | [], s, t => by simp [delD, look]
  | (k, v) :: r, s, t => by
    have ih := look_del r s t
    unfold delD at ih ⊢
    rw [List.filter_cons]
    by_cases e : k = s
    · rw [if_neg (by simp [e]), ih]
      by_cases e2 : t = s
      · rw [if_pos e2, if_pos e2]
      · rw [if_neg e2, if_neg e2]
        show _ = if k = t then some v else look r t
        rw [if_neg (fun z => e2 (by rw [← z, e]))]
    · rw [if_pos (by simp [e])]
      show (if k = t then some v else look _ t) = _
      rw [ih]
      show _ = if t = s then none else if k = t then some v else look r t
      by_cases e2 : k = t
      · rw [if_pos e2, if_pos e2, if_neg (fun z => e (by rw [e2, z]))]
      · rw [if_neg e2, if_neg e2]
theorem mem_ins : ∀ {l : Dir} {s : ByteArray} {n : Nat} {x : ByteArray × Nat}, x ∈ insD l s n → x = (s, n) ∨ x ∈ l
  | [], s, n, x, h => by simp [insD] at h; exact .inl h
  | (k, v) :: r, s, n, x, h => by
    unfold insD at h
    split at h
    · rcases List.mem_cons.1 h with h | h
      · exact .inl h
      · exact .inr (List.mem_cons_of_mem _ h)
    · split at h
      · rcases List.mem_cons.1 h with h | h
        · exact .inl h
        · exact .inr h
      · rcases List.mem_cons.1 h with h | h
        · exact .inr (by rw [h]; exact List.mem_cons_self ..)
        · rcases mem_ins h with h | h
          · exact .inl h
          · exact .inr (List.mem_cons_of_mem _ h)
theorem look_ins : ∀ (l : Dir), Rise l → ∀ (s : ByteArray) (n : Nat) (t : ByteArray), look (insD l s n) t = if t = s then some n else look l t
  | [], _, s, n, t => by
    unfold insD look
    by_cases e : t = s
    · rw [if_pos e, if_pos e.symm]
    · rw [if_neg e, if_neg (fun z => e z.symm)]; rfl
  | (k, v) :: r, hr, s, n, t => by
    have hr' := hr
    unfold Rise at hr'
    rw [List.pairwise_cons] at hr'
    have ih := look_ins r hr'.2 s n t
    unfold insD
    by_cases e : k = s
    · rw [if_pos e]
      show (if s = t then some n else look r t) = if t = s then some n else if k = t then some v else look r t
      by_cases e2 : t = s
      · rw [if_pos e2, if_pos e2.symm]
      · rw [if_neg e2, if_neg (fun z => e2 z.symm), if_neg (fun z => e2 (by rw [← z, e]))]
    · rw [if_neg e]
      by_cases hlt : bl s < bl k
      · rw [if_pos hlt]
        show (if s = t then some n else look ((k, v) :: r) t) = _
        by_cases e2 : t = s
        · rw [if_pos e2, if_pos e2.symm]
        · rw [if_neg e2, if_neg (fun z => e2 z.symm)]
      · rw [if_neg hlt]
        show (if k = t then some v else look (insD r s n) t) = if t = s then some n else if k = t then some v else look r t
        rw [ih]
        by_cases e2 : t = s
        · rw [if_pos e2, if_pos e2, if_neg (fun z => e (by rw [z, e2]))]
        · rw [if_neg e2, if_neg e2]
theorem rise_ins : ∀ {l : Dir}, Rise l → ∀ (s : ByteArray) (n : Nat), Rise (insD l s n)
  | [], _, s, n => List.pairwise_singleton _ _
  | (k, v) :: r, hr, s, n => by
    have hr' := hr
    unfold Rise at hr'
    rw [List.pairwise_cons] at hr'
    have ih := rise_ins hr'.2 s n
    unfold insD
    by_cases e : k = s
    · rw [if_pos e]
      unfold Rise
      rw [List.pairwise_cons]
      exact ⟨fun x hx => by rw [← e]; exact hr'.1 x hx, hr'.2⟩
    · rw [if_neg e]
      by_cases hlt : bl s < bl k
      · rw [if_pos hlt]
        unfold Rise
        rw [List.pairwise_cons]
        refine ⟨fun x hx => ?_, hr⟩
        rcases List.mem_cons.1 hx with rfl | hx
        · exact hlt
        · exact List.lt_trans hlt (hr'.1 x hx)
      · rw [if_neg hlt]
        unfold Rise
        rw [List.pairwise_cons]
        refine ⟨fun x hx => ?_, ih⟩
        rcases mem_ins hx with rfl | hx
        · exact bl_tri hlt (fun z => e z.symm)
        · exact hr'.1 x hx
theorem rise_del {l : Dir} (h : Rise l) (s : ByteArray) : Rise (delD l s) := List.Pairwise.sublist (List.filter_sublist ..) h
theorem len_ins : ∀ (l : Dir), Rise l → ∀ (s : ByteArray) (n : Nat), (insD l s n).length = l.length + if (look l s).isSome = true then 0 else 1
  | [], _, s, n => rfl
  | (k, v) :: r, hr, s, n => by
    have hr' := hr
    unfold Rise at hr'
    rw [List.pairwise_cons] at hr'
    have ih := len_ins r hr'.2 s n
    unfold insD
    by_cases e : k = s
    · rw [if_pos e]
      have : look ((k, v) :: r) s = some v := by unfold look; rw [if_pos e]
      rw [this]; simp
    · rw [if_neg e]
      have hl : look ((k, v) :: r) s = look r s := by show (if k = s then some v else look r s) = _; rw [if_neg e]
      rw [hl]
      by_cases hlt : bl s < bl k
      · rw [if_pos hlt]
        have : look r s = none := look_none.2 (fun x hx z => by
          have := hr'.1 x hx
          rw [z] at this
          exact List.lt_asymm this hlt)
        rw [this]; simp
      · rw [if_neg hlt]
        simp only [List.length_cons, ih]
        omega
theorem len_del : ∀ (l : Dir), Rise l → ∀ (s : ByteArray), (delD l s).length = l.length - if (look l s).isSome = true then 1 else 0
  | [], _, s => by simp [delD]
  | (k, v) :: r, hr, s => by
    have hr' := hr
    unfold Rise at hr'
    rw [List.pairwise_cons] at hr'
    have ih := len_del r hr'.2 s
    unfold delD at ih ⊢
    rw [List.filter_cons]
    by_cases e : k = s
    · rw [if_neg (by simp [e])]
      have hl : look ((k, v) :: r) s = some v := by show (if k = s then some v else look r s) = _; rw [if_pos e]
      have hn : look r s = none := look_none.2 (fun x hx z => by
        have := hr'.1 x hx
        rw [z, ← e] at this
        exact List.lt_irrefl _ this)
      rw [ih, hl, hn]; simp
    · rw [if_pos (by simp [e])]
      have hl : look ((k, v) :: r) s = look r s := by show (if k = s then some v else look r s) = _; rw [if_neg e]
      rw [hl, List.length_cons, ih, List.length_cons]
      by_cases h : (look r s).isSome = true
      · rw [if_pos h]
        have : r ≠ [] := fun z => by rw [z] at h; cases h
        have := List.length_pos_iff.2 this
        omega
      · rw [if_neg h]; omega
theorem dir_ext : ∀ {a b : Dir}, Rise a → Rise b → (∀ s, look a s = look b s) → a = b
  | [], [], _, _, _ => rfl
  | [], (k, v) :: r, _, _, h => by have := h k; unfold look at this; rw [if_pos rfl] at this; cases this
  | (k, v) :: r, [], _, _, h => by have := h k; unfold look at this; rw [if_pos rfl] at this; cases this
  | (k, v) :: r, (k', v') :: r', ha, hb, h => by
    have ha' := ha
    have hb' := hb
    unfold Rise at ha' hb'
    rw [List.pairwise_cons] at ha' hb'
    have e : k = k' := by
      have h1 : (k, v) ∈ (k', v') :: r' := look_mem ((h k).symm.trans (by unfold look; rw [if_pos rfl]))
      have h2 : (k', v') ∈ (k, v) :: r := look_mem ((h k').trans (by unfold look; rw [if_pos rfl]))
      rcases List.mem_cons.1 h1 with e | e
      · injection e
      · rcases List.mem_cons.1 h2 with e2 | e2
        · injection e2 with e3; exact e3.symm
        · exact absurd (ha'.1 _ e2) (List.lt_asymm (hb'.1 _ e))
    subst e
    have ev : v = v' := by have := h k; unfold look at this; rw [if_pos rfl, if_pos rfl] at this; injection this
    subst ev
    rw [dir_ext ha'.2 hb'.2 (fun s => ?_)]
    have := h s
    unfold look at this
    by_cases e : k = s
    · subst e
      rw [look_none.2 (fun x hx => (bl_ne (ha'.1 x hx)).symm), look_none.2 (fun x hx => (bl_ne (hb'.1 x hx)).symm)]
    · rw [if_neg e, if_neg e] at this; exact this
/-- What happened to names. -/
inductive FOp where
  | cre (s : ByteArray) (n : Nat)
  | del (s : ByteArray)
  | ren (s t : ByteArray)
def FOp.run (l : Dir) : FOp → Dir
  | .cre s n => insD l s n
  | .del s => delD l s
  | .ren s t => match look l s with
    | some n => insD (delD l s) t n
    | none => l
/-- It can happen: what is renamed is there. -/
def FOp.can (l : Dir) : FOp → Prop
  | .ren s _ => (look l s).isSome = true
  | _ => True
theorem FOp.rise {l : Dir} (h : Rise l) (o : FOp) : Rise (o.run l) := by
  cases o with
  | cre s n => exact rise_ins h s n
  | del s => exact rise_del h s
  | ren s t =>
    show Rise (match look l s with | some n => insD (delD l s) t n | none => l)
    split
    · exact rise_ins (rise_del h s) t _
    · exact h
def runs (l : Dir) (os : List FOp) : Dir := os.foldl FOp.run l
def Can : Dir → List FOp → Prop
  | _, [] => True
  | l, o :: os => o.can l ∧ Can (o.run l) os
theorem runs_rise : ∀ (os : List FOp) {l : Dir}, Rise l → Rise (runs l os)
  | [], _, h => h
  | o :: os, _, h => runs_rise os (FOp.rise h o)
theorem runs_snoc (l : Dir) (os : List FOp) (o : FOp) : runs l (os ++ [o]) = o.run (runs l os) := by unfold runs; rw [List.foldl_append]; rfl
theorem Can.snoc : ∀ {os : List FOp} {l : Dir} {o : FOp}, Can l os → o.can (runs l os) → Can l (os ++ [o])
  | [], _, _, _, h => ⟨h, trivial⟩
  | _ :: _, _, _, h1, h2 => ⟨h1.1, Can.snoc h1.2 h2⟩
theorem Can.at : ∀ {os : List FOp} {l : Dir}, Can l os → ∀ (i : Nat) (hi : i < os.length), os[i].can (runs l (os.take i))
  | o :: os, l, h, 0, _ => h.1
  | o :: os, l, h, i + 1, hi => Can.at h.2 i (by simpa using hi)
theorem runs_take {l : Dir} {os : List FOp} {i : Nat} (hi : i < os.length) : runs l (os.take (i + 1)) = os[i].run (runs l (os.take i)) := by rw [List.take_succ_eq_append_getElem hi, runs_snoc]
end Go.Proofs.Ytdopmcepfacdlaa

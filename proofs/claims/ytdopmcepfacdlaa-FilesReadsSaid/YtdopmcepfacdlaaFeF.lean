/- FilesReads: the plain law. -/
import Derived.Test.YtdopmcepfacdlaaFeE
namespace Go.Proofs.Ytdopmcepfacdlaa
open Go.RowKit Go.Maps

/-- The names a, b, c. -/
def nam (i : Nat) : ByteArray := ⟨#[UInt8.ofNat (97 + i)]⟩
theorem nam_okF : ∀ i : Fin 3, NameOk (nam i) := by decide
theorem nam_ok {i : Nat} (h : i < 3) : NameOk (nam i) := nam_okF ⟨i, h⟩
theorem nam_inj {i k : Nat} (hi : i < 3) (hk : k < 3) (h : nam i = nam k) : i = k := by
  unfold nam at h
  injection h with h
  simp only [Array.mk.injEq, List.cons.injEq, and_true] at h
  have h1 := congrArg UInt8.toNat h
  simp only [UInt8.toNat_ofNat'] at h1
  omega
theorem nam_size (i : Nat) : (nam i).size = 1 := rfl
def upn {α : Type} (f : Nat → α) (x : Nat) (v : α) (k : Nat) : α := if k = x then v else f k
theorem upn_same {α : Type} (f : Nat → α) (x : Nat) (v : α) : upn f x v x = v := if_pos rfl
theorem upn_ne {α : Type} (f : Nat → α) {x k : Nat} (v : α) (h : k ≠ x) : upn f x v k = f k := if_neg h
def b1 (b : Bool) : Nat := if b = true then 1 else 0
def cnt (is : Nat → Bool) : Nat := b1 (is 0) + b1 (is 1) + b1 (is 2)
theorem cnt_upn (is : Nat → Bool) {x : Nat} (hx : x < 3) (v : Bool) : cnt (upn is x v) + b1 (is x) = cnt is + b1 v := by
  unfold cnt
  match x, hx with
  | 0, _ => rw [upn_same, upn_ne _ _ (by decide), upn_ne _ _ (by decide)]; omega
  | 1, _ => rw [upn_same, upn_ne _ _ (by decide), upn_ne _ _ (by decide)]; omega
  | 2, _ => rw [upn_same, upn_ne _ _ (by decide), upn_ne _ _ (by decide)]; omega
structure RdL (j : Nat) (is : Nat → Bool) (has : Nat → ByteArray) (F : Fd) (l : Dir) (os : List FOp) : Prop where
  fs : FS F l [] os 1000000
  ops : os.length ≤ j
  len : l.length = cnt is
  rise : Rise l
  mem : ∀ x ∈ l, ∃ i, i < 3 ∧ x.1 = nam i
  yes : ∀ i, i < 3 → is i = true → ∃ n, look l (nam i) = some n ∧ (F.fl n).b = has i
  no : ∀ i, i < 3 → is i = false → look l (nam i) = none ∧ has i = ⟨#[]⟩
  inj : ∀ i k n, i < 3 → k < 3 → look l (nam i) = some n → look l (nam k) = some n → i = k
  sz : ∀ i, i < 3 → (has i).size ≤ 100 * j
def Rd (j : Nat) (is : Nat → Bool) (has : Nat → ByteArray) (F : Fd) : Prop := ∃ l os, RdL j is has F l os
theorem Rd.new : Rd 0 (fun _ => false) (fun _ => ⟨#[]⟩) (newF 1000000) :=
  ⟨[], [], FS.new 1000000, Nat.le_refl _, rfl, List.Pairwise.nil, (fun x hx => by cases hx), (fun i _ h => by cases h), (fun i _ _ => ⟨rfl, rfl⟩), (fun i k n _ _ h => by cases h), fun i _ => Nat.zero_le _⟩
section
variable {j : Nat} {is : Nat → Bool} {has : Nat → ByteArray} {F : Fd} {l : Dir} {os : List FOp}
theorem Rd.since (h : Rd j is has F) (hj : j ≤ 40) : F.since.length ≤ 1000 := by
  obtain ⟨l, os, h⟩ := h
  rw [h.fs.since]; have := h.ops; omega
theorem Rd.len (h : Rd j is has F) : F.now.length = cnt is := by
  obtain ⟨l, os, h⟩ := h
  rw [h.fs.now]; exact h.len
theorem Rd.read (h : Rd j is has F) {x : Nat} (hx : x < 3) : (is x = true → getE F (nam x) = 0) ∧ (is x = false → getE F (nam x) = 12) ∧ readB F (nam x) = has x := by
  obtain ⟨l, os, h⟩ := h
  cases e : is x with
  | true =>
    obtain ⟨n, h1, h2⟩ := h.yes x hx e
    obtain ⟨g1, g2⟩ := h.fs.read (nam_ok hx) h1
    exact ⟨fun _ => g1, (fun z => by cases z), by rw [g2, h2]⟩
  | false =>
    obtain ⟨h1, h2⟩ := h.no x hx e
    obtain ⟨g1, g2⟩ := h.fs.read_no (nam_ok hx) h1
    exact ⟨(fun z => by cases z), fun _ => g1, by rw [g2, h2]⟩
theorem Rd.hsz (h : Rd j is has F) (hj : j ≤ 40) {x : Nat} (hx : x < 3) : (has x).size ≤ 4000 := by
  obtain ⟨l, os, h⟩ := h
  have := h.sz x hx
  omega
theorem Rd.more (h : Rd j is has F) : Rd (j + 1) is has F := by
  obtain ⟨l, os, h⟩ := h
  exact ⟨l, os, h.fs, Nat.le_succ_of_le h.ops, h.len, h.rise, h.mem, h.yes, h.no, h.inj, fun i hi => by have := h.sz i hi; omega⟩
theorem lk_ins (hr : Rise l) {i x : Nat} (hi : i < 3) (hx : x < 3) (n : Nat) : look (insD l (nam x) n) (nam i) = if i = x then some n else look l (nam i) := by
  rw [look_ins l hr]
  by_cases e : i = x
  · subst e; rw [if_pos rfl, if_pos rfl]
  · rw [if_neg (fun z => e (nam_inj hi hx z)), if_neg e]
theorem lk_del {i x : Nat} (hi : i < 3) (hx : x < 3) : look (delD l (nam x)) (nam i) = if i = x then none else look l (nam i) := by
  rw [look_del]
  by_cases e : i = x
  · subst e; rw [if_pos rfl, if_pos rfl]
  · rw [if_neg (fun z => e (nam_inj hi hx z)), if_neg e]
theorem RdL.lk (h : RdL j is has F l os) {x : Nat} (hx : x < 3) : (look l (nam x)).isSome = is x := by
  cases e : is x with
  | true => obtain ⟨n, h1, _⟩ := h.yes x hx e; rw [h1]; rfl
  | false => rw [(h.no x hx e).1]; rfl
theorem cnt_le (is : Nat → Bool) : cnt is ≤ 3 := by unfold cnt b1; split <;> split <;> split <;> omega
theorem RdL.size (h : RdL j is has F l os) : sizes F.fl l ≤ 300 * j := by
  have hb : ∀ x ∈ l, (F.fl x.2).b.size ≤ 100 * j := fun x hx => by
    obtain ⟨i, hi, e⟩ := h.mem x hx
    have hl := look_of (s := x.1) (n := x.2) h.rise hx
    rw [e] at hl
    have his : is i = true := by rw [← h.lk hi, hl]; rfl
    obtain ⟨n, h1, h2⟩ := h.yes i hi his
    rw [hl] at h1
    injection h1 with h1
    rw [h1, h2]; exact h.sz i hi
  have : ∀ (m : Dir) (c : Nat), (∀ x ∈ m, (F.fl x.2).b.size ≤ c) → sizes F.fl m ≤ m.length * c := by
    intro m c
    induction m with
    | nil => intro _; exact Nat.zero_le _
    | cons x r ih =>
      intro hm
      have h1 := ih (fun y hy => hm y (List.mem_cons_of_mem _ hy))
      have h2 := hm x (List.mem_cons_self ..)
      unfold sizes at h1 ⊢
      rw [List.map_cons, List.sum_cons, List.length_cons, Nat.add_mul]
      omega
  have h1 := this l (100 * j) hb
  rw [h.len] at h1
  have h2 : cnt is * (100 * j) ≤ 3 * (100 * j) := Nat.mul_le_mul_right _ (cnt_le is)
  omega
theorem Rd.create_no (h : Rd j is has F) {x : Nat} (hx : x < 3) (e : is x = true) : ¬ okC F (nam x) ∧ createE F (nam x) = 13 := by
  obtain ⟨l, os, h⟩ := h
  obtain ⟨n, h1, _⟩ := h.yes x hx e
  refine ⟨(fun z => by have := z.2.1; rw [h.fs.now, h1] at this; cases this), ?_⟩
  unfold createE
  rw [if_neg (fun z => z (h.fs.free.rdy1 (nam_ok hx))), h.fs.now, h1, if_pos (show (some n).isSome = true from rfl)]
theorem Rd.create (h : Rd j is has F) {x : Nat} (hx : x < 3) (e : is x = false) : okC F (nam x) ∧ createE F (nam x) = 0 ∧ ∀ n, ¬ F.has n → Rd (j + 1) (upn is x true) has (createF F (nam x) n) := by
  obtain ⟨l, os, h⟩ := h
  obtain ⟨h1, h2⟩ := h.no x hx e
  have hk := h.fs.okc (nam_ok hx) h1 (by have := h.len; have := cnt_le is; omega)
  refine ⟨hk, h.fs.free.createE hk, fun n hn => ?_⟩
  obtain ⟨c1, c2, c3⟩ := h.fs.create (s := nam x) n
  have hne : ∀ i m, look l (nam i) = some m → m ≠ n := fun i m hm z => hn (.inl ⟨nam i, by rw [h.fs.now, ← z]; exact look_mem hm⟩)
  refine ⟨_, _, c1, ?_, ?_, rise_ins h.rise _ _, fun y hy => ?_, fun i hi hs => ?_, fun i hi hs => ?_, fun i k m hi hk' h3 h4 => ?_, fun i hi => by have := h.sz i hi; omega⟩
  · rw [List.length_append]; have := h.ops; show _ + 1 ≤ _; omega
  · rw [len_ins l h.rise, h1, h.len]
    have := cnt_upn is hx true
    rw [e] at this
    simpa [b1] using this.symm
  · rcases mem_ins hy with rfl | hy
    · exact ⟨x, hx, rfl⟩
    · exact h.mem y hy
  · rw [lk_ins h.rise hi hx]
    by_cases hix : i = x
    · subst hix
      exact ⟨n, if_pos rfl, by rw [c2, h2]⟩
    · rw [upn_ne _ _ hix] at hs
      obtain ⟨m, h3, h4⟩ := h.yes i hi hs
      exact ⟨m, by rw [if_neg hix, h3], by rw [c3 m (hne i m h3), h4]⟩
  · rw [lk_ins h.rise hi hx]
    by_cases hix : i = x
    · subst hix; rw [upn_same] at hs; cases hs
    · rw [upn_ne _ _ hix] at hs
      rw [if_neg hix]
      exact h.no i hi hs
  · rw [lk_ins h.rise hi hx] at h3
    rw [lk_ins h.rise hk' hx] at h4
    by_cases hix : i = x
    · rw [if_pos hix] at h3
      injection h3 with h3
      by_cases hkx : k = x
      · rw [hix, hkx]
      · rw [if_neg hkx] at h4
        exact absurd h3.symm (hne k m h4)
    · rw [if_neg hix] at h3
      by_cases hkx : k = x
      · rw [if_pos hkx] at h4
        injection h4 with h4
        exact absurd h4.symm (hne i m h3)
      · rw [if_neg hkx] at h4
        exact h.inj i k m hi hk' h3 h4
theorem Rd.app_no (h : Rd j is has F) {x : Nat} (hx : x < 3) (e : is x = false) (t : ByteArray) : appE F (nam x) t = 12 ∧ appF F (nam x) t = F := by
  obtain ⟨l, os, h⟩ := h
  obtain ⟨g1, g2⟩ := h.fs.free.get_no (nam_ok hx) (by rw [h.fs.now]; exact (h.no x hx e).1)
  exact ⟨by unfold appE; rw [if_neg (by rw [g1]; decide), g1], by unfold appF; rw [g2]⟩
theorem Rd.app (h : Rd j is has F) (hj : j ≤ 40) {x : Nat} (hx : x < 3) (e : is x = true) (t : ByteArray) (ht : t.size ≤ 100) : appE F (nam x) t = 0 ∧ Rd (j + 1) is (upn has x (has x ++ t)) (appF F (nam x) t) := by
  obtain ⟨l, os, h⟩ := h
  obtain ⟨n, h1, h2⟩ := h.yes x hx e
  obtain ⟨e1, e2, e3, e4⟩ := h.fs.app (t := t) (nam_ok hx) h1 (by have := h.size; omega)
  refine ⟨e1, l, os, e2, Nat.le_succ_of_le h.ops, h.len, h.rise, h.mem, fun i hi hs => ?_, fun i hi hs => ?_, h.inj, fun i hi => ?_⟩
  · by_cases hix : i = x
    · subst hix
      exact ⟨n, h1, by rw [e3, upn_same]; show (F.fl n).b ++ t = _; rw [h2]⟩
    · obtain ⟨m, h3, h4⟩ := h.yes i hi hs
      exact ⟨m, h3, by rw [e4 m (fun z => hix (h.inj i x m hi hx h3 (by rw [z]; exact h1))), upn_ne _ _ hix, h4]⟩
  · have hix : i ≠ x := fun z => by rw [z, e] at hs; cases hs
    rw [upn_ne _ _ hix]; exact h.no i hi hs
  · by_cases hix : i = x
    · subst hix
      rw [upn_same, ByteArray.size_append]
      have := h.sz i hi; omega
    · rw [upn_ne _ _ hix]; have := h.sz i hi; omega
theorem Rd.del_no (h : Rd j is has F) {x : Nat} (hx : x < 3) (e : is x = false) : deleteE F (nam x) = 12 ∧ deleteF F (nam x) = F ∧ has x = ⟨#[]⟩ := by
  obtain ⟨l, os, h⟩ := h
  obtain ⟨g1, g2⟩ := h.fs.free.get_no (nam_ok hx) (by rw [h.fs.now]; exact (h.no x hx e).1)
  exact ⟨by unfold deleteE; rw [if_neg (by rw [g1]; decide), g1], by unfold deleteF; rw [if_neg (by rw [g1]; decide)], (h.no x hx e).2⟩
theorem Rd.del (h : Rd j is has F) {x : Nat} (hx : x < 3) (e : is x = true) : deleteE F (nam x) = 0 ∧ Rd (j + 1) (upn is x false) (upn has x ⟨#[]⟩) (deleteF F (nam x)) := by
  obtain ⟨l, os, h⟩ := h
  obtain ⟨n, h1, h2⟩ := h.yes x hx e
  obtain ⟨e1, e2, e3⟩ := h.fs.delete (nam_ok hx) h1
  refine ⟨e1, _, _, e2, ?_, ?_, rise_del h.rise _, fun y hy => h.mem y (List.mem_filter.1 hy).1, fun i hi hs => ?_, fun i hi hs => ?_, fun i k m hi hk' h3 h4 => ?_, fun i hi => ?_⟩
  · rw [List.length_append]; have := h.ops; show _ + 1 ≤ _; omega
  · rw [len_del l h.rise, h1, h.len]
    have := cnt_upn is hx false
    rw [e] at this
    have h3 : cnt (upn is x false) + 1 = cnt is + 0 := this
    simp; omega
  · have hix : i ≠ x := fun z => by rw [z, upn_same] at hs; cases hs
    rw [upn_ne _ _ hix] at hs ⊢
    rw [lk_del hi hx, if_neg hix, e3]
    exact h.yes i hi hs
  · rw [lk_del hi hx]
    by_cases hix : i = x
    · subst hix; exact ⟨if_pos rfl, upn_same _ _ _⟩
    · rw [upn_ne _ _ hix] at hs ⊢
      rw [if_neg hix]; exact h.no i hi hs
  · rw [lk_del hi hx] at h3
    rw [lk_del hk' hx] at h4
    by_cases hix : i = x
    · rw [if_pos hix] at h3; cases h3
    · by_cases hkx : k = x
      · rw [if_pos hkx] at h4; cases h4
      · rw [if_neg hix] at h3; rw [if_neg hkx] at h4
        exact h.inj i k m hi hk' h3 h4
  · by_cases hix : i = x
    · subst hix; rw [upn_same]; exact Nat.zero_le _
    · rw [upn_ne _ _ hix]; have := h.sz i hi; omega
theorem Rd.ren_no (h : Rd j is has F) {x y : Nat} (hx : x < 3) (hy : y < 3) (e : is x = false) : renameE F (nam x) (nam y) = 12 ∧ renameF F (nam x) (nam y) = F := by
  obtain ⟨l, os, h⟩ := h
  obtain ⟨g1, g2⟩ := h.fs.free.get_no (nam_ok hx) (by rw [h.fs.now]; exact (h.no x hx e).1)
  have hr : rdyE F.on [nam x, nam y] = 0 := h.fs.free.rdy (fun z hz => by rcases List.mem_cons.1 hz with rfl | hz; exact nam_ok hx; rw [List.mem_singleton.1 hz]; exact nam_ok hy)
  exact ⟨by unfold renameE; rw [if_neg (fun z => z hr), if_neg (by rw [g1]; decide), g1], by unfold renameF; rw [if_neg (fun z => by have := z.2; rw [g1] at this; cases this)]⟩
theorem lk_ren (hr : Rise l) {x y i : Nat} (hx : x < 3) (hy : y < 3) (hi : i < 3) (n : Nat) : look (insD (delD l (nam x)) (nam y) n) (nam i) = if i = y then some n else if i = x then none else look l (nam i) := by
  rw [lk_ins (rise_del hr _) hi hy, lk_del hi hx]
theorem Rd.ren_same (h : Rd j is has F) {x : Nat} (hx : x < 3) (e : is x = true) : renameE F (nam x) (nam x) = 0 ∧ Rd (j + 1) is has (renameF F (nam x) (nam x)) := by
  obtain ⟨l, os, h⟩ := h
  obtain ⟨n, h1, h2⟩ := h.yes x hx e
  obtain ⟨e1, e2, e3⟩ := h.fs.rename (nam_ok hx) (nam_ok hx) h1
  have hl : ∀ i, i < 3 → look (insD (delD l (nam x)) (nam x) n) (nam i) = look l (nam i) := fun i hi => by
    rw [lk_ren h.rise hx hx hi]
    by_cases hix : i = x
    · subst hix; rw [if_pos rfl, h1]
    · rw [if_neg hix, if_neg hix]
  refine ⟨e1, _, _, e2, ?_, ?_, rise_ins (rise_del h.rise _) _ _, fun y hy => ?_, fun i hi hs => ?_, fun i hi hs => ?_, fun i k m hi hk' h3 h4 => ?_, fun i hi => by have := h.sz i hi; omega⟩
  · rw [List.length_append]; have := h.ops; show _ + 1 ≤ _; omega
  · rw [len_ins _ (rise_del h.rise _), len_del l h.rise, h1, lk_del hx hx, if_pos rfl, h.len]
    have hpos : 0 < l.length := List.length_pos_of_mem (look_mem h1)
    have := h.len
    simp; omega
  · rcases mem_ins hy with rfl | hy
    · exact ⟨x, hx, rfl⟩
    · exact h.mem y (List.mem_filter.1 hy).1
  · rw [hl i hi, e3]; exact h.yes i hi hs
  · rw [hl i hi]; exact h.no i hi hs
  · rw [hl i hi] at h3; rw [hl k hk'] at h4; exact h.inj i k m hi hk' h3 h4
theorem Rd.ren (h : Rd j is has F) {x y : Nat} (hx : x < 3) (hy : y < 3) (hxy : x ≠ y) (e : is x = true) :
    renameE F (nam x) (nam y) = 0 ∧ Rd (j + 1) (upn (upn is y true) x false) (upn (upn has y (has x)) x ⟨#[]⟩) (renameF F (nam x) (nam y)) := by
  obtain ⟨l, os, h⟩ := h
  obtain ⟨n, h1, h2⟩ := h.yes x hx e
  obtain ⟨e1, e2, e3⟩ := h.fs.rename (nam_ok hx) (nam_ok hy) h1
  have hl : ∀ i, i < 3 → look (insD (delD l (nam x)) (nam y) n) (nam i) = if i = y then some n else if i = x then none else look l (nam i) := fun i hi => lk_ren h.rise hx hy hi n
  refine ⟨e1, _, _, e2, ?_, ?_, rise_ins (rise_del h.rise _) _ _, fun z hz => ?_, fun i hi hs => ?_, fun i hi hs => ?_, fun i k m hi hk' h3 h4 => ?_, fun i hi => ?_⟩
  · rw [List.length_append]; have := h.ops; show _ + 1 ≤ _; omega
  · have hd : look (delD l (nam x)) (nam y) = look l (nam y) := by rw [lk_del hy hx, if_neg (fun z => hxy z.symm)]
    rw [len_ins _ (rise_del h.rise _), len_del l h.rise, h1, hd, h.lk hy, h.len]
    have c1 := cnt_upn (upn is y true) hx false
    rw [upn_ne _ _ hxy, e] at c1
    have c2 := cnt_upn is hy true
    have hp : 0 < l.length := List.length_pos_of_mem (look_mem h1)
    rw [h.len] at hp
    cases hy2 : is y <;> rw [hy2] at c2 <;> simp [b1] at c1 c2 ⊢ <;> omega
  · rcases mem_ins hz with rfl | hz
    · exact ⟨y, hy, rfl⟩
    · exact h.mem z (List.mem_filter.1 hz).1
  · have hix : i ≠ x := fun z => by rw [z, upn_same] at hs; cases hs
    rw [upn_ne _ _ hix] at hs ⊢
    rw [hl i hi, e3]
    by_cases hiy : i = y
    · subst hiy
      exact ⟨n, if_pos rfl, by rw [upn_same, h2]⟩
    · rw [upn_ne _ _ hiy] at hs ⊢
      rw [if_neg hiy, if_neg hix]
      exact h.yes i hi hs
  · rw [hl i hi]
    by_cases hix : i = x
    · subst hix
      exact ⟨by rw [if_neg hxy, if_pos rfl], upn_same _ _ _⟩
    · rw [upn_ne _ _ hix] at hs ⊢
      have hiy : i ≠ y := fun z => by rw [z, upn_same] at hs; cases hs
      rw [upn_ne _ _ hiy] at hs ⊢
      rw [if_neg hiy, if_neg hix]
      exact h.no i hi hs
  · rw [hl i hi] at h3; rw [hl k hk'] at h4
    by_cases hiy : i = y
    · by_cases hky : k = y
      · rw [hiy, hky]
      · rw [if_pos hiy] at h3
        rw [if_neg hky] at h4
        by_cases hkx : k = x
        · rw [if_pos hkx] at h4; cases h4
        · rw [if_neg hkx] at h4
          injection h3 with h3
          exact absurd (h.inj k x m hk' hx h4 (by rw [← h3]; exact h1)) hkx
    · rw [if_neg hiy] at h3
      by_cases hix : i = x
      · rw [if_pos hix] at h3; cases h3
      · rw [if_neg hix] at h3
        by_cases hky : k = y
        · rw [if_pos hky] at h4
          injection h4 with h4
          exact absurd (h.inj i x m hi hx h3 (by rw [← h4]; exact h1)) hix
        · rw [if_neg hky] at h4
          by_cases hkx : k = x
          · rw [if_pos hkx] at h4; cases h4
          · rw [if_neg hkx] at h4
            exact h.inj i k m hi hk' h3 h4
  · by_cases hix : i = x
    · subst hix; rw [upn_same]; exact Nat.zero_le _
    · rw [upn_ne _ _ hix]
      by_cases hiy : i = y
      · subst hiy; rw [upn_same]; have := h.sz x hx; omega
      · rw [upn_ne _ _ hiy]; have := h.sz i hi; omega
end
end Go.Proofs.Ytdopmcepfacdlaa

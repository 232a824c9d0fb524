/- Package files: Crash. -/
import Derived.Test.YtdopmcepfacdlaaFdO
namespace Go.Proofs.Ytdopmcepfacdlaa
open Go.RowKit Go.Maps
attribute [local go_sem] max2_mx min2_mn max_two' min_two'

theorem ins_set : ∀ {l : Dir}, Rise l → ∀ (j : Nat) (hj : j < l.length) (n : Nat), insD l l[j].1 n = l.set j (l[j].1, n)
  | (k, v) :: r, hr, 0, _, n => by unfold insD; simp
  | (k, v) :: r, hr, j + 1, hj, n => by
    have hr' := hr
    unfold Rise at hr'
    rw [List.pairwise_cons] at hr'
    have hj' : j < r.length := by simpa using hj
    have hlt := hr'.1 r[j] (List.getElem_mem hj')
    show insD ((k, v) :: r) r[j].1 n = (k, v) :: r.set j (r[j].1, n)
    unfold insD
    rw [if_neg (bl_ne hlt), if_neg (List.lt_asymm hlt), ins_set hr'.2 j hj' n]
theorem runs_ids : ∀ {os : List FOp} {l : Dir} {t : ByteArray} {n : Nat}, (t, n) ∈ runs l os → (∃ s, (s, n) ∈ l) ∨ ∃ s, FOp.cre s n ∈ os
  | [], _, t, _, h => .inl ⟨t, h⟩
  | o :: os, l, t, n, h => by
    rcases runs_ids (os := os) (l := o.run l) h with ⟨s, h1⟩ | ⟨s, h1⟩
    · rcases run_ids h1 with h2 | ⟨s', e⟩
      · exact .inl h2
      · exact .inr ⟨s', by rw [e]; exact List.mem_cons_self ..⟩
    · exact .inr ⟨s, List.mem_cons_of_mem _ h1⟩
/-- What a crash leaves of a file. -/
def cutFl (x : Fl) (n : Int) : Fl := ⟨x.b.extract 0 (x.sy + n).toNat, x.sy + n⟩
def manyF (F : Fd) (ps : List Int) : Nat := (pk (ps.headD 0) F.since.length).toNat
def leftD (F : Fd) (ps : List Int) : Dir := runs F.firm (F.since.take (manyF F ps))
/-- The names that a crash leaves, and what their files are. -/
structure Crashed (F : Fd) (ps : List Int) (L : Dir) (fl : Nat → Fl) : Prop where
  len : L.length = (leftD F ps).length
  each : ∀ i (h : i < (leftD F ps).length) (h' : i < L.length), L[i].1 = (leftD F ps)[i].1 ∧ fl L[i].2 = cutFl (F.fl (leftD F ps)[i].2) (pk (ps.getD (1 + i) 0) ((F.fl (leftD F ps)[i].2).b.size - (F.fl (leftD F ps)[i].2).sy))
def crashF (F : Fd) (L : Dir) (fl : Nat → Fl) : Fd := { F with now := L, firm := L, since := [], on := true, armed := false, up := true, fl := fl }
def CrashPost (X : Nat → Prop) (w : World) (p : Nat) (F : Fd) (ps : List Int) (e : Ending) (w' : World) : Prop :=
  e = .returned (.tuple #[]) ∧ ∃ L fl, Crashed F ps L fl ∧ FdAt (Aft X w w') w' p (crashF F L fl) ∧ Bt X w w'
/-- A file as it is read. -/
def readFl (w : World) (n : Nat) : Fl := match w.heap[n]? with
  | some (.cells ⟨[.string b, .int _ sy]⟩ _ _) => ⟨b, sy⟩
  | _ => ⟨⟨#[]⟩, 0⟩
theorem readFl_of {w : World} {n : Nat} {x : Fl} (h : w.heap[n]? = some (.cells #[.string x.b, .int .i64 x.sy] 70 (0, 0))) : readFl w n = x := by
  unfold readFl; rw [h]
/-- What a crash has done to the files of the first j names. -/
structure CutTo (F : Fd) (ps : List Int) (w0 wx : World) (L M : Dir) (j : Nat) : Prop where
  len : M.length = L.length
  name : ∀ i (h : i < L.length) (h' : i < M.length), M[i].1 = L[i].1
  old : ∀ i (h : i < L.length) (h' : i < M.length), j ≤ i → M[i].2 = L[i].2
  new : ∀ i (h : i < L.length) (h' : i < M.length), i < j → w0.heap.size ≤ M[i].2 ∧ wx.heap[M[i].2]? = some (.cells #[.string (cutFl (F.fl L[i].2) (pk (ps.getD (1 + i) 0) ((F.fl L[i].2).b.size - (F.fl L[i].2).sy))).b, .int .i64 (cutFl (F.fl L[i].2) (pk (ps.getD (1 + i) 0) ((F.fl L[i].2).b.size - (F.fl L[i].2).sy))).sy] 70 (0, 0))
theorem CutTo.start (F : Fd) (ps : List Int) (w0 wx : World) (L : Dir) : CutTo F ps w0 wx L L 0 :=
  ⟨rfl, fun _ _ _ => rfl, fun _ _ _ _ => rfl, fun i _ _ h => absurd h (by omega)⟩
theorem CutTo.step {F : Fd} {ps : List Int} {w0 wx wy : World} {L M : Dir} {j n : Nat} (h : CutTo F ps w0 wx L M j) (hj : j < L.length) (hM : j < M.length) (hkeep : ∀ (k : Nat) (o : Array Value), wx.heap[k]? = some (.cells o 70 (0, 0)) → wy.heap[k]? = some (.cells o 70 (0, 0))) (hn : w0.heap.size ≤ n)
    (hx : wy.heap[n]? = some (.cells #[.string (cutFl (F.fl L[j].2) (pk (ps.getD (1 + j) 0) ((F.fl L[j].2).b.size - (F.fl L[j].2).sy))).b, .int .i64 (cutFl (F.fl L[j].2) (pk (ps.getD (1 + j) 0) ((F.fl L[j].2).b.size - (F.fl L[j].2).sy))).sy] 70 (0, 0))) :
    CutTo F ps w0 wy L (M.set j (M[j].1, n)) (j + 1) := by
  refine ⟨by rw [List.length_set]; exact h.len, fun i hi hi' => ?_, fun i hi hi' hle => ?_, fun i hi hi' hlt => ?_⟩
  · rw [List.getElem_set]
    split
    · rename_i e; subst e; exact h.name j hj hM
    · exact h.name i hi (by simpa using hi')
  · rw [List.getElem_set_ne (by omega)]
    exact h.old i hi (by simpa using hi') (by omega)
  · by_cases e : i = j
    · subst e
      rw [List.getElem_set_self]
      exact ⟨hn, hx⟩
    · rw [List.getElem_set_ne (by omega)]
      obtain ⟨h1, h2⟩ := h.new i hi (by simpa using hi') (by omega)
      exact ⟨h1, hkeep _ _ h2⟩
theorem CutTo.wld {F : Fd} {ps : List Int} {w0 wx wy : World} {L M : Dir} {j : Nat} (h : CutTo F ps w0 wx L M j) (hkeep : ∀ (k : Nat) (o : Array Value), wx.heap[k]? = some (.cells o 70 (0, 0)) → wy.heap[k]? = some (.cells o 70 (0, 0))) : CutTo F ps w0 wy L M j :=
  ⟨h.len, h.name, h.old, fun i hi hi' hlt => ⟨(h.new i hi hi' hlt).1, hkeep _ _ (h.new i hi hi' hlt).2⟩⟩
theorem crash_end {X : Nat → Prop} {w wx w7 : World} {p : Nat} {F : Fd} {ps : List Int} {L M : Dir} {b : Nat} {mb2 : Option Nat} (hF : FdAt X w p F) (eL : leftD F ps = L) (hG : Gr w wx) (hD : DirAt wx (some b) M) (hC : CutTo F ps w wx L M L.length) (hbz : w.heap.size ≤ b)
    (hd7 : DirAt w7 mb2 M) (hm7 : ∀ k, mb2 = some k → wx.heap.size ≤ k ∧ k < w7.heap.size) (hg7 : Gr wx w7) {nb fb : Option Nat} {sv : Value} (e1 : w.heap[p]? = some (.cells (fdC F nb fb sv) 64 (0, 0))) :
    ∃ L' fl, Crashed F ps L' fl ∧ FdAt (Aft X w (((((w7.setCell ⟨p, 0, none⟩ (.map (some b))).setCell ⟨p, 1, none⟩ (.map mb2)).setCell ⟨p, 2, none⟩ (.slice none 0 0)).setCell ⟨p, 4, none⟩ (.bool true)).setCell ⟨p, 5, none⟩ (.bool false)))
      (((((w7.setCell ⟨p, 0, none⟩ (.map (some b))).setCell ⟨p, 1, none⟩ (.map mb2)).setCell ⟨p, 2, none⟩ (.slice none 0 0)).setCell ⟨p, 4, none⟩ (.bool true)).setCell ⟨p, 5, none⟩ (.bool false)) p (crashF F L' fl) ∧
      Bt X w (((((w7.setCell ⟨p, 0, none⟩ (.map (some b))).setCell ⟨p, 1, none⟩ (.map mb2)).setCell ⟨p, 2, none⟩ (.slice none 0 0)).setCell ⟨p, 4, none⟩ (.bool true)).setCell ⟨p, 5, none⟩ (.bool false)) := by
  have e7 := (hG.tr hg7).blk e1
  have a1 := heap_setCell_same w7 p 0 _ _ (.map (some b)) e7
  have a2 := heap_setCell_same _ p 1 _ _ (.map mb2) a1
  have a3 := heap_setCell_same _ p 2 _ _ (.slice none 0 0) a2
  have a4 := heap_setCell_same _ p 4 _ _ (.bool true) a3
  have a5 := heap_setCell_same _ p 5 _ _ (.bool false) a4
  have st : ∀ (W : World) o v, Bt (fun k => k = p) W (W.setCell ⟨p, o, none⟩ v) := fun W o v => Bt.row (grown_set W p o _) rfl
  have hb := ((((st w7 0 (.map (some b))).tr (st _ 1 (.map mb2))).tr (st _ 2 (.slice none 0 0))).tr (st _ 4 (.bool true))).tr (st _ 5 (.bool false))
  generalize ((((w7.setCell ⟨p, 0, none⟩ (.map (some b))).setCell ⟨p, 1, none⟩ (.map mb2)).setCell ⟨p, 2, none⟩ (.slice none 0 0)).setCell ⟨p, 4, none⟩ (.bool true)).setCell ⟨p, 5, none⟩ (.bool false) = w12 at *
  have kp : ∀ k, k = p → Kd w7 k 64 := fun k z => by subst z; exact ⟨_, e7⟩
  have hbt : Bt X w w12 := (Bt.of (hG.tr hg7)).tr (hb.mono (fun k _ z => by rw [z]; exact hF.xp))
  have hbl : b < wx.heap.size := hD.lt b rfl
  have hid : ∀ i (h : i < M.length), w.heap.size ≤ M[i].2 ∧ w12.heap[M[i].2]? = some (.cells #[.string (cutFl (F.fl (L[i]'(by rw [hC.len] at h; exact h)).2) (pk (ps.getD (1 + i) 0) ((F.fl (L[i]'(by rw [hC.len] at h; exact h)).2).b.size - (F.fl (L[i]'(by rw [hC.len] at h; exact h)).2).sy))).b, .int .i64 (cutFl (F.fl (L[i]'(by rw [hC.len] at h; exact h)).2) (pk (ps.getD (1 + i) 0) ((F.fl (L[i]'(by rw [hC.len] at h; exact h)).2).b.size - (F.fl (L[i]'(by rw [hC.len] at h; exact h)).2).sy))).sy] 70 (0, 0)) := fun i h => by
    have hi : i < L.length := by rw [hC.len] at h; exact h
    obtain ⟨h1, h2⟩ := hC.new i hi h hi
    refine ⟨h1, ?_⟩
    have h3 := hg7.blk h2
    exact (hb.block _ (blk_lt h3) (fun z => by have := (kp _ z).one ⟨_, h3⟩; revert this; decide)).trans h3
  refine ⟨M, readFl w12, ⟨by rw [eL]; exact hC.len, fun i h h' => ?_⟩, ?_, hbt⟩
  · subst eL
    exact ⟨hC.name i h h', readFl_of (x := cutFl _ _) (hid i h').2⟩
  · refine FdAt.made (nb := some b) (fb := mb2) (sv := .slice none 0 0) (vs := []) (Aft.lt hF.xlt hbt.size) (.inl hF.xp) (a5.trans rfl) ((hD.gr hg7).btk hb kp) (fun k e => ?_) (fun k e => ?_) (fun _ e => ?_) (fun _ => by simp) (World.ownsRow_nil _ _ _ _) (fun k e => by simp [Value.ownBlock] at e) ⟨hd7.btk hb kp, fun i hi => absurd hi (by simp [crashF]), fun n hn => ?_⟩
    · injection e with e; subst e
      exact .inr ⟨hbz, Nat.lt_of_lt_of_le hbl (Nat.le_trans hg7.size hb.size)⟩
    · exact .inr ⟨Nat.le_trans hG.size (hm7 k e).1, Nat.lt_of_lt_of_le (hm7 k e).2 hb.size⟩
    · have := (hm7 b e.symm).1; omega
    · have hn' : ∃ s, (s, n) ∈ M := by
        rcases hn with h | h | ⟨s, h⟩
        · exact h
        · exact h
        · cases h
      obtain ⟨s, hs⟩ := hn'
      obtain ⟨i, hi, ei⟩ := List.getElem_of_mem hs
      have h1 := hid i hi
      rw [ei] at h1
      refine ⟨.inr ⟨h1.1, blk_lt h1.2⟩, ?_⟩
      show w12.heap[n]? = some (.cells #[.string (readFl w12 n).b, .int .i64 (readFl w12 n).sy] _ _)
      rw [readFl_of (x := cutFl _ _) h1.2]
      exact h1.2
end Go.Proofs.Ytdopmcepfacdlaa

/- A folder that has power and is not armed, told whole: what each call leaves. -/
import Derived.Test.YtdopmcepfacdlaaFdW
namespace Go.Proofs.Ytdopmcepfacdlaa
open Go.RowKit Go.Maps

theorem empty_app (a : ByteArray) : (⟨#[]⟩ : ByteArray) ++ a = a := ByteArray.empty_append
structure FS (F : Fd) (l fm : Dir) (os : List FOp) (r : Int) : Prop where
  free : F.Free
  now : F.now = l
  firm : F.firm = fm
  since : F.since = os
  room : F.room = r
section
variable {F : Fd} {l fm : Dir} {os : List FOp} {r : Int} {s t : ByteArray} {n : Nat}
theorem FS.new (k : Int) : FS (newF k) [] [] [] (roomF k) := ⟨newF_free k, rfl, rfl, rfl, rfl⟩
theorem FS.okc (h : FS F l fm os r) (hs : NameOk s) (hl : look l s = none) (hn : l.length < 64) : okC F s := h.free.okc hs (by rw [h.now]; exact hl) (by rw [h.now]; exact hn)
theorem FS.create (h : FS F l fm os r) (n : Nat) : FS (createF F s n) (insD l s n) fm (os ++ [.cre s n]) r ∧ (createF F s n).fl n = ⟨⟨#[]⟩, 0⟩ ∧ ∀ k, k ≠ n → (createF F s n).fl k = F.fl k := by
  rw [h.free.createF]
  exact ⟨⟨⟨h.free.on, h.free.armed⟩, by show insD F.now s n = _; rw [h.now], h.firm, by show F.since ++ _ = _; rw [h.since], h.room⟩, updF_same _ _ _, fun k hk => updF_other _ _ hk⟩
theorem FS.app (h : FS F l fm os r) (hs : NameOk s) (hl : look l s = some n) (hr : (sizes F.fl l : Int) + t.size ≤ r) :
    appE F s t = 0 ∧ FS (appF F s t) l fm os r ∧ (appF F s t).fl n = ⟨(F.fl n).b ++ t, (F.fl n).sy⟩ ∧ ∀ k, k ≠ n → (appF F s t).fl k = F.fl k := by
  obtain ⟨e1, e2⟩ := h.free.app (t := t) hs (by rw [h.now]; exact hl) (by unfold usedF; rw [h.now, h.room]; exact hr)
  rw [e2]
  exact ⟨e1, ⟨⟨h.free.on, h.free.armed⟩, h.now, h.firm, h.since, h.room⟩, updF_same _ _ _, fun k hk => updF_other _ _ hk⟩
theorem FS.full (h : FS F l fm os r) (hs : NameOk s) (hl : look l s = some n) (hr : ¬ (sizes F.fl l : Int) + t.size ≤ r) : appE F s t = 15 ∧ appF F s t = F := by
  obtain ⟨g1, g2⟩ := h.free.get hs (by rw [h.now]; exact hl)
  have hu : F.room < (usedF F : Int) + t.size := by unfold usedF; rw [h.now, h.room]; omega
  exact ⟨by unfold appE; rw [if_pos g1, if_pos hu], by unfold appF; rw [g2]; exact if_pos hu⟩
theorem FS.sync (h : FS F l fm os r) (hs : NameOk s) (hl : look l s = some n) :
    syncE F s = 0 ∧ FS (syncF F s) l fm os r ∧ (syncF F s).fl n = ⟨(F.fl n).b, (F.fl n).b.size⟩ ∧ ∀ k, k ≠ n → (syncF F s).fl k = F.fl k := by
  obtain ⟨e1, e2⟩ := h.free.sync hs (by rw [h.now]; exact hl)
  rw [e2]
  exact ⟨e1, ⟨⟨h.free.on, h.free.armed⟩, h.now, h.firm, h.since, h.room⟩, updF_same _ _ _, fun k hk => updF_other _ _ hk⟩
theorem FS.sdir (h : FS F l fm os r) : sdirE F = 0 ∧ FS (sdirF F) l l [] r ∧ (sdirF F).fl = F.fl := by
  obtain ⟨e1, e2⟩ := h.free.sdir
  rw [e2]
  exact ⟨e1, ⟨⟨h.free.on, h.free.armed⟩, h.now, h.now, rfl, h.room⟩, rfl⟩
theorem FS.hap (h : FS F l fm os r) (o : FOp) : FS (hapF F o) (o.run l) fm (os ++ [o]) r ∧ (hapF F o).fl = F.fl := by
  unfold hapF
  rw [h.free.stepF]
  exact ⟨⟨⟨h.free.on, h.free.armed⟩, by show o.run F.now = _; rw [h.now], h.firm, by show F.since ++ _ = _; rw [h.since], h.room⟩, rfl⟩
theorem FS.rename (h : FS F l fm os r) (hs : NameOk s) (ht : NameOk t) (hl : look l s = some n) : renameE F s t = 0 ∧ FS (renameF F s t) (insD (delD l s) t n) fm (os ++ [.ren s t]) r ∧ (renameF F s t).fl = F.fl := by
  have g := (h.free.get hs (by rw [h.now]; exact hl)).1
  have hr : rdyE F.on [s, t] = 0 := h.free.rdy (fun x hx => by rcases List.mem_cons.1 hx with rfl | hx; exact hs; rw [List.mem_singleton.1 hx]; exact ht)
  obtain ⟨h1, h2⟩ := h.hap (.ren s t)
  have e : renameF F s t = hapF F (.ren s t) := by unfold renameF; exact if_pos ⟨hr, g⟩
  rw [e]
  refine ⟨by unfold renameE; rw [if_neg (fun z => z hr), if_pos g, h.free.stepE], ?_, h2⟩
  have : FOp.run l (.ren s t) = insD (delD l s) t n := by show (match look l s with | some n => _ | none => _) = _; rw [hl]
  rw [this] at h1; exact h1
theorem FS.delete (h : FS F l fm os r) (hs : NameOk s) (hl : look l s = some n) : deleteE F s = 0 ∧ FS (deleteF F s) (delD l s) fm (os ++ [.del s]) r ∧ (deleteF F s).fl = F.fl := by
  have g := (h.free.get hs (by rw [h.now]; exact hl)).1
  obtain ⟨h1, h2⟩ := h.hap (.del s)
  have e : deleteF F s = hapF F (.del s) := by unfold deleteF; exact if_pos g
  rw [e]
  exact ⟨by unfold deleteE; rw [if_pos g, h.free.stepE], h1, h2⟩
theorem FS.read (h : FS F l fm os r) (hs : NameOk s) (hl : look l s = some n) : getE F s = 0 ∧ readB F s = (F.fl n).b := by
  have g := h.free.get hs (by rw [h.now]; exact hl)
  exact ⟨g.1, by unfold readB; rw [g.2]⟩
theorem FS.read_no (h : FS F l fm os r) (hs : NameOk s) (hl : look l s = none) : getE F s = 12 ∧ readB F s = ⟨#[]⟩ := by
  have g := h.free.get_no hs (by rw [h.now]; exact hl)
  exact ⟨g.1, by unfold readB; rw [g.2]⟩
theorem FS.crash (L : Dir) (fl : Nat → Fl) (h : F.room = r) : FS (crashF F L fl) L L [] r := ⟨crashF_free L fl, rfl, rfl, rfl, h⟩
/-- What is told of a file that a crash leaves. -/
theorem crash_at {ps : List Int} {L : Dir} {fl : Nat → Fl} (hc : Crashed F ps L fl) {D : Dir} (hD : leftD F ps = D) (i : Nat) (hi : i < D.length) : ∃ k, L[i]? = some (D[i].1, k) ∧ fl k = cutFl (F.fl D[i].2) (pk (ps.getD (1 + i) 0) ((F.fl D[i].2).b.size - (F.fl D[i].2).sy)) := by
  subst hD
  have hL : i < L.length := by rw [hc.len]; exact hi
  have e := hc.each i hi hL
  exact ⟨L[i].2, by rw [List.getElem?_eq_getElem hL, ← e.1], e.2⟩
theorem pk_in (x : Int) {n : Int} (hn : 0 ≤ n) : 0 ≤ pk x n ∧ pk x n ≤ n := by
  unfold pk
  have h0 : 0 ≤ (if x < 0 then -(x + 1) else x) := by split <;> omega
  rw [Int.tmod_eq_emod_of_nonneg h0]
  have h1 := Int.emod_nonneg (if x < 0 then -(x + 1) else x) (show n + 1 ≠ 0 by omega)
  have h2 := Int.emod_lt_of_pos (if x < 0 then -(x + 1) else x) (show 0 < n + 1 by omega)
  omega
theorem cut_all {x : Fl} (h : x.sy = x.b.size) (p : Int) : (cutFl x (pk p ((x.b.size : Int) - x.sy))).b = x.b := by
  have := pk_in p (n := (x.b.size : Int) - x.sy) (by omega)
  unfold cutFl
  show x.b.extract 0 _ = x.b
  rw [show (x.sy + pk p ((x.b.size : Int) - x.sy)).toNat = x.b.size by omega]
  exact ByteArray.extract_zero_size
end
end Go.Proofs.Ytdopmcepfacdlaa

/- FilesFull: the plain law. -/
import Derived.Test.YtdopmcepfacdlaaFdZ
namespace Go.Proofs.Ytdopmcepfacdlaa
open Go.RowKit Go.Maps

theorem ins_perm : ∀ {l : Dir} {s : ByteArray} {n : Nat}, look l s = none → (insD l s n).Perm ((s, n) :: l)
  | [], _, _, _ => List.Perm.refl _
  | (k, v) :: r, s, n, h => by
    unfold look at h
    by_cases hk : k = s
    · rw [if_pos hk] at h; cases h
    · rw [if_neg hk] at h
      unfold insD
      rw [if_neg hk]
      split
      · exact List.Perm.refl _
      · exact ((ins_perm h).cons _).trans (List.Perm.swap _ _ _)
theorem sizes_turn {fl fl' : Nat → Fl} {m : Nat} (hk : ∀ k, k ≠ m → fl' k = fl k) : ∀ {l : Dir} {s : ByteArray}, (l.map (·.2)).Nodup → (s, m) ∈ l → sizes fl' l + (fl m).b.size = sizes fl l + (fl' m).b.size
  | [], _, _, h => by cases h
  | (k, v) :: r, s, hn, h => by
    rw [List.map_cons, List.nodup_cons] at hn
    have hc : ∀ f : Nat → Fl, sizes f ((k, v) :: r) = (f v).b.size + sizes f r := fun f => by simp [sizes]
    rw [hc, hc]
    by_cases hv : v = m
    · subst hv
      have : sizes fl' r = sizes fl r := by
        unfold sizes
        congr 1
        refine List.map_congr_left fun x hx => ?_
        rw [hk x.2 (fun z => hn.1 (by rw [← z]; exact List.mem_map.2 ⟨x, hx, rfl⟩))]
      omega
    · have hm : (s, m) ∈ r := by
        rcases List.mem_cons.1 h with e | e
        · injection e with _ e; exact absurd e.symm hv
        · exact e
      have := sizes_turn hk hn.2 hm
      rw [hk v hv]
      omega
/-- The names. -/
def nm (i : Nat) : ByteArray := ⟨#[102, UInt8.ofNat (97 + i / 26), UInt8.ofNat (97 + i % 26)]⟩
abbrev sFaa : ByteArray := ⟨#[102, 97, 97]⟩
theorem nm_zero : nm 0 = sFaa := rfl
set_option maxRecDepth 100000 in
theorem nm_okF : ∀ i : Fin 80, NameOk (nm i) := by decide
theorem nm_ok {i : Nat} (h : i < 80) : NameOk (nm i) := nm_okF ⟨i, h⟩
theorem nm_inj {i j : Nat} (hi : i < 80) (hj : j < 80) (h : nm i = nm j) : i = j := by
  unfold nm at h
  injection h with h
  simp only [Array.mk.injEq, List.cons.injEq, and_true, true_and] at h
  have h1 := congrArg UInt8.toNat h.1
  have h2 := congrArg UInt8.toNat h.2
  simp only [UInt8.toNat_ofNat'] at h1 h2
  omega
/-- So many of the names are there, at most 64; all files are empty. -/
def Fls (i : Nat) (r : Int) (F : Fd) : Prop := ∃ l os, FS F l [] os r ∧ l.length = min i 64 ∧ os.length = min i 64 ∧ (∀ x ∈ l, ∃ j, j < min i 64 ∧ x.1 = nm j) ∧ (0 < i → ∃ m, (sFaa, m) ∈ l) ∧ (l.map (·.2)).Nodup ∧ ∀ x ∈ l, F.fl x.2 = ⟨⟨#[]⟩, 0⟩
theorem Fls.new (r : Int) : Fls 0 (roomF r) (newF r) := ⟨[], [], FS.new r, rfl, rfl, (fun x hx => by cases hx), (fun h => absurd h (by decide)), List.nodup_nil, fun x hx => by cases hx⟩
section
variable {i : Nat} {r : Int} {F : Fd}
theorem Fls.since (h : Fls i r F) : F.since.length ≤ 1000 := by
  obtain ⟨l, os, hf, _, ho, _⟩ := h
  rw [hf.since, ho]; omega
theorem Fls.none (h : Fls i r F) (hi : i < 80) : look F.now (nm i) = none := by
  obtain ⟨l, os, hf, hl, _, hm, _⟩ := h
  rw [hf.now]
  refine look_none.2 fun x hx e => ?_
  obtain ⟨j, hj, e2⟩ := hm x hx
  have := nm_inj (by omega) hi (e2.symm.trans e)
  omega
theorem Fls.ok (h : Fls i r F) (hi : i < 64) : okC F (nm i) ∧ createE F (nm i) = 0 := by
  have hn := h.none (by omega)
  obtain ⟨l, os, hf, hl, _⟩ := h
  rw [hf.now] at hn
  have := hf.okc (nm_ok (by omega)) hn (by omega)
  exact ⟨this, hf.free.createE this⟩
theorem Fls.add (h : Fls i r F) (hi : i < 64) {n : Nat} (hn : ¬ F.has n) : Fls (i + 1) r (createF F (nm i) n) := by
  have h0 := h.none (by omega)
  obtain ⟨l, os, hf, hl, ho, hm, hz, hd, he⟩ := h
  rw [hf.now] at h0
  obtain ⟨c1, c2, c3⟩ := hf.create (s := nm i) n
  have hp := ins_perm (n := n) h0
  have hne : ∀ x ∈ l, x.2 ≠ n := fun x hx e => hn (.inl ⟨x.1, by rw [hf.now, ← e]; exact hx⟩)
  refine ⟨_, _, c1, ?_, ?_, fun x hx => ?_, fun _ => ?_, ?_, fun x hx => ?_⟩
  · rw [hp.length_eq, List.length_cons, hl]; omega
  · rw [List.length_append, ho]; show _ + 1 = _; omega
  · rcases List.mem_cons.1 (hp.mem_iff.1 hx) with rfl | hx
    · exact ⟨i, by omega, rfl⟩
    · obtain ⟨j, hj, e⟩ := hm x hx
      exact ⟨j, by omega, e⟩
  · by_cases h1 : 0 < i
    · obtain ⟨m, hm⟩ := hz h1
      exact ⟨m, hp.mem_iff.2 (List.mem_cons_of_mem _ hm)⟩
    · obtain rfl : i = 0 := by omega
      exact ⟨n, hp.mem_iff.2 (List.mem_cons_self ..)⟩
  · rw [(hp.map _).nodup_iff, List.map_cons, List.nodup_cons]
    refine ⟨fun z => ?_, hd⟩
    obtain ⟨x, hx, e⟩ := List.mem_map.1 z
    exact hne x hx e
  · rcases List.mem_cons.1 (hp.mem_iff.1 hx) with rfl | hx
    · exact c2
    · rw [c3 _ (hne x hx)]; exact he x hx
theorem Fls.full (h : Fls i r F) (hi : 64 ≤ i) (h8 : i < 80) : ¬ okC F (nm i) ∧ createE F (nm i) = 15 ∧ Fls (i + 1) r F := by
  have hn := h.none h8
  obtain ⟨l, os, hf, hl, ho, hm, hz, hd, he⟩ := h
  have hlen : F.now.length = 64 := by rw [hf.now, hl]; omega
  refine ⟨fun z => by have := z.2.2; omega, ?_, l, os, hf, by omega, by omega, fun x hx => ?_, fun _ => hz (by omega), hd, he⟩
  · unfold createE
    rw [if_neg (fun z => z (hf.free.rdy1 (nm_ok h8))), hn, if_neg (by simp), if_pos (by omega)]
  · obtain ⟨j, hj, e⟩ := hm x hx
    exact ⟨j, by omega, e⟩
/-- The file faa has these bytes; all others have none. -/
def Fs2 (m : Nat) (b : ByteArray) (r : Int) (F : Fd) : Prop := ∃ l os, FS F l [] os r ∧ look l sFaa = some m ∧ (l.map (·.2)).Nodup ∧ F.fl m = ⟨b, 0⟩ ∧ sizes F.fl l = b.size
theorem Fls.two (h : Fls i r F) (hi : 0 < i) (hr : Rise F.now) : (∃ m, Fs2 m ⟨#[]⟩ r F) ∧ ¬ okC F sFaa := by
  obtain ⟨l, os, hf, hl, ho, hm, hz, hd, he⟩ := h
  obtain ⟨m, h1⟩ := hz hi
  rw [hf.now] at hr
  have hk := look_of hr h1
  refine ⟨⟨m, l, os, hf, hk, hd, he _ h1, ?_⟩, fun z => by have := z.2.1; rw [hf.now, hk] at this; cases this⟩
  have : ∀ l : Dir, (∀ x ∈ l, F.fl x.2 = ⟨⟨#[]⟩, 0⟩) → sizes F.fl l = 0 := by
    intro l
    induction l with
    | nil => intro _; rfl
    | cons x r ih =>
      intro h
      have h2 := ih (fun y hy => h y (List.mem_cons_of_mem _ hy))
      unfold sizes at h2 ⊢
      rw [List.map_cons, List.sum_cons, h2, h x (List.mem_cons_self ..)]; rfl
  exact this l he
variable {m : Nat} {b t : ByteArray}
theorem okFaa : NameOk sFaa := by decide
theorem Fs2.app (h : Fs2 m b r F) (hr : (b.size : Int) + t.size ≤ r) : appE F sFaa t = 0 ∧ Fs2 m (b ++ t) r (appF F sFaa t) := by
  obtain ⟨l, os, hf, hl, hd, hm, hs⟩ := h
  obtain ⟨e1, e2, e3, e4⟩ := hf.app (t := t) okFaa hl (by rw [hs]; exact hr)
  rw [hm] at e3
  refine ⟨e1, l, os, e2, hl, hd, e3, ?_⟩
  have := sizes_turn e4 hd (look_mem hl)
  rw [hs, hm, e3] at this
  have h2 : (b ++ t).size = b.size + t.size := ByteArray.size_append
  have h3 : sizes (appF F sFaa t).fl l + b.size = b.size + (b ++ t).size := this
  omega
theorem Fs2.full (h : Fs2 m b r F) (hr : ¬ (b.size : Int) + t.size ≤ r) : appE F sFaa t = 15 ∧ appF F sFaa t = F := by
  obtain ⟨l, os, hf, hl, hd, hm, hs⟩ := h
  exact hf.full okFaa hl (by rw [hs]; exact hr)
theorem Fs2.read (h : Fs2 m b r F) : getE F sFaa = 0 ∧ readB F sFaa = b ∧ usedF F = b.size ∧ F.on = true := by
  obtain ⟨l, os, hf, hl, hd, hm, hs⟩ := h
  obtain ⟨g1, g2⟩ := hf.read okFaa hl
  exact ⟨g1, by rw [g2, hm], by unfold usedF; rw [hf.now]; exact hs, hf.free.on⟩
end
end Go.Proofs.Ytdopmcepfacdlaa

/- Opening lists of replies that are arguments. -/
import Derived.Test.YtpnpnjfflblkpaaFrH
import Derived.Test.YtpnpnjfflblkpaaQwQ
namespace Go.Proofs.Ytpnpnjfflblkpaa
open Go.ChangeShapes Go.WideShapes Go.ChangeAt Go.RowKit Go.Deep

set_option maxRecDepth 100000
section
variable {H : Type} {enc : TypeId × Value → H} {W : World} {base b0 : Nat} {spare : Nat → Bool} {held : Bool} {r : Reach}
/-- A slice's cell, as it is read: its elements as a list. -/
theorem open_rows_f {P : Program} {α : Type} [Inhabited α] (ea : α → List Value) (k : Nat) (hk : ∀ x, (ea x).length = k) (hk0 : 0 < k) (Q : α → Prop) {t e : TypeId}
    (ht : P.underlying t = some (.slice e)) (hce : P.cellsOf e = k) (dec : ∀ n cs x, DataW.trod enc P W base spare held n e cs = some x → cs.length = k → ∃ y : α, cs = ea y ∧ Q y)
    {fuel : Nat} {cs : List Value} {x : DataW H × List MemPlace} (hf : DataW.trod enc P W base spare held fuel t cs = some x) :
    ∃ v, cs = [v] ∧ ∃ l : List α, rdRow W k v l.length (l.flatMap ea) ∧ l.length ≤ maxLen ∧ ∀ y ∈ l, Q y := by
  rcases Deep.open_slice ht hf with ⟨rfl, _⟩ | ⟨a, len, cap, m, n, D, Pl, rfl, _, hl, hm, hmm, _, hel⟩
  · exact ⟨_, rfl, [], ⟨by simp, none, 0, rfl, Nat.le_refl _, fun h => absurd h (by simp)⟩, Nat.zero_le _, by simp⟩
  · refine ⟨_, rfl, ?_⟩
    have hlm : len ≤ m := by rw [hmm]; split <;> omega
    have key : ∀ i, i < len → ∃ y : α, Q y ∧ ∀ j u, (ea y)[j]? = some u → W.cell? ((a.add (i * k)).add j) = some u := by
      intro i hi
      obtain ⟨cs, hc, htr⟩ := hel i (by omega)
      rw [hce] at hc
      have hcl : cs.length = k := by
        have h1 := cells?_get hc
        unfold World.cells? at hc
        split at hc
        · have := mapM_len _ _ hc
          simpa using this
        · cases hc
      obtain ⟨y, rfl, hq⟩ := dec _ _ _ htr hcl
      refine ⟨y, hq, fun j u hu => ?_⟩
      have hj : j < k := by rw [← hcl]; exact (List.getElem?_eq_some_iff.1 hu).1
      rw [cells?_get hc j hj, hu]
    obtain ⟨X, hX⟩ := Deep.choose_lt key
    have hlen : ((List.range len).map X).length = len := by simp
    refine ⟨(List.range len).map X, ⟨?_, some a, cap, by rw [hlen], by rw [hlen]; exact hl, fun hpos => ?_⟩, by rw [hlen]; omega, ?_⟩
    · have : ∀ l : List α, (l.flatMap ea).length = l.length * k := by
        intro l; induction l with
        | nil => simp
        | cons x r ih => rw [List.flatMap_cons, List.length_append, ih, hk, List.length_cons, Nat.add_mul]; omega
      exact this _
    · rw [hlen] at hpos
      have h00 : a.spot = none := by
        obtain ⟨u, hu⟩ : ∃ u, (ea (X 0))[0]? = some u := ⟨(ea (X 0))[0]'(by rw [hk]; exact hk0), by rw [List.getElem?_eq_getElem]⟩
        have := (hX 0 hpos).2 0 u hu
        simp [Addr.add] at this
        cases hs : a.spot with
        | none => rfl
        | some s => simp [World.cell?, hs] at this; split at this <;> simp at this
      obtain ⟨b, o, sp⟩ := a
      simp only at h00
      subst h00
      refine ⟨b, o, rfl, rd_of_each ea k hk _ o (fun i hi j u hu => ?_)⟩
      rw [hlen] at hi
      have hu' : (ea (X i))[j]? = some u := by simpa using hu
      have := (hX i hi).2 j u hu'
      rwa [Deep.add_add, Addr.add_mid] at this
    · intro y hy
      obtain ⟨i, hi, rfl⟩ := List.mem_map.1 hy
      exact (hX i (List.mem_range.1 hi)).1
theorem cellsQ : Try.prog.cellsOf 37 = 1 := by kernel_rfl
theorem open_pl_f {fuel : Nat} {cs : List Value} {x : DataW H × List MemPlace} (hf : DataW.trod enc Try.prog W base spare held fuel 37 cs = some x) :
    ∃ v, cs = [v] ∧ ∃ l : List Pt, rdRow W 6 v l.length (encP l) ∧ l.length ≤ maxLen ∧ ∀ x ∈ l, PtI x :=
  open_rows_f ptC 6 (fun _ => rfl) (by decide) PtI Try.underlying37 cellsP (fun n cs x ht hlen => open_pt ht hlen) hf
theorem open_rep {n : Nat} {cs : List Value} {x : DataW H × List MemPlace} (h : DataW.trod enc Try.prog W base spare held n 48 cs = some x) (hlen : cs.length = 2) : ∃ o, cs = repC o ∧ RepOk W o := by
  obtain ⟨xs, n1, _, _, _, hxl, hf⟩ := DataW.trod_struct Try.underlying48 h
  match cs, hlen, xs, hxl with
  | [c0, c1], _, [y0, y1], _ =>
    have h0 := hf 0 _ rfl; have h1 := hf 1 _ rfl
    simp [cellsI, cellsQ] at h0 h1
    obtain ⟨k0, e0, _, w0⟩ := DataW.trod_int Try.underlying3 h0
    obtain ⟨d, e3, l, hd, hdl, _⟩ := open_pl_f h1
    simp at e0 e3
    exact ⟨⟨k0, d, l⟩, by simp [repC, e0, e3], wf_i64 w0, hd, hdl⟩
theorem cellsR : Try.prog.cellsOf 48 = 2 := by kernel_rfl
theorem open_reps {v : Value} {d : DataW H} {p : List MemPlace} (hv : Value.okWide Try.prog W r b0 46 v) (h : DataW.Trod enc Try.prog W base spare held 46 v d p) :
    ∃ l : List RepR, rdRow W 2 v l.length (l.flatMap repC) ∧ l.length ≤ maxLen ∧ ∀ o ∈ l, RepOk W o :=
  open_rows repC 2 (fun _ => rfl) (by decide) (RepOk W) Try.underlying46 cellsR (fun _ _ _ ht hlen => open_rep ht hlen) hv h
end
end Go.Proofs.Ytpnpnjfflblkpaa

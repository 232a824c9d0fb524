/- Opening lists of calls of package hint that are arguments. -/
import Derived.Test.YtijgbfhjimlklaaFrH
import Derived.Test.YtijgbfhjimlklaaHpH
namespace Go.Proofs.Ytijgbfhjimlklaa
open Go.ChangeShapes Go.WideShapes Go.ChangeAt Go.RowKit Go.Deep

set_option maxRecDepth 100000
section
variable {H : Type} {enc : TypeId × Value → H} {W : World} {base b0 : Nat} {spare : Nat → Bool} {held : Bool} {r : Reach}
/-- A slice's cell, as it is read: its elements as a list. -/
theorem open_rows_f {P : Program} {α : Type} [Inhabited α] (ea : α → List Value) (k : Nat) (hk : ∀ x, (ea x).length = k) (hk0 : 0 < k) (Q : α → Prop) {t e : TypeId}
    (ht : P.underlying t = some (.slice e)) (hce : P.cellsOf e = k) (dec : ∀ n cs x, DataW.trod enc P W base spare held n e cs = some x → cs.length = k → ∃ y : α, cs = ea y ∧ Q y)
    {fuel : Nat} {cs : List Value} {x : DataW H × List MemPlace} (hf : DataW.trod enc P W base spare held fuel t cs = some x) :
    ∃ v, cs = [v] ∧ ∃ l : List α, rdRow W k v l.length (l.flatMap ea) ∧ l.length ≤ maxLen ∧ ∀ y ∈ l, Q y := by
  rcases Deep.open_slice ht hf with ⟨rfl, _⟩ | ⟨a, len, cap, m, n, D, Pl, rfl, _, hl, hm, hmm, _, hel⟩
  · exact ⟨_, rfl, [], ⟨by simp, none, 0, rfl, Nat.le_refl _, fun h => absurd h (by simp)⟩, Nat.zero_le _, by simp⟩
  · refine ⟨_, rfl, ?_⟩
    have hlm : len ≤ m := by rw [hmm]; split <;> omega
    have key : ∀ i, i < len → ∃ y : α, Q y ∧ ∀ j u, (ea y)[j]? = some u → W.cell? ((a.add (i * k)).add j) = some u := by
      intro i hi
      obtain ⟨cs, hc, htr⟩ := hel i (by omega)
      rw [hce] at hc
      have hcl : cs.length = k := by
        have h1 := cells?_get hc
        unfold World.cells? at hc
        split at hc
        · have := mapM_len _ _ hc
          simpa using this
        · cases hc
      obtain ⟨y, rfl, hq⟩ := dec _ _ _ htr hcl
      refine ⟨y, hq, fun j u hu => ?_⟩
      have hj : j < k := by rw [← hcl]; exact (List.getElem?_eq_some_iff.1 hu).1
      rw [cells?_get hc j hj, hu]
    obtain ⟨X, hX⟩ := Deep.choose_lt key
    have hlen : ((List.range len).map X).length = len := by simp
    refine ⟨(List.range len).map X, ⟨?_, some a, cap, by rw [hlen], by rw [hlen]; exact hl, fun hpos => ?_⟩, by rw [hlen]; omega, ?_⟩
    · have : ∀ l : List α, (l.flatMap ea).length = l.length * k := by
        intro l; induction l with
        | nil => simp
        | cons x r ih => rw [List.flatMap_cons, List.length_append, ih, hk, List.length_cons, Nat.add_mul]; omega
      exact this _
    · rw [hlen] at hpos
      have h00 : a.spot = none := by
        obtain ⟨u, hu⟩ : ∃ u, (ea (X 0))[0]? = some u := ⟨(ea (X 0))[0]'(by rw [hk]; exact hk0), by rw [List.getElem?_eq_getElem]⟩
        have := (hX 0 hpos).2 0 u hu
        simp [Addr.add] at this
        cases hs : a.spot with
        | none => rfl
        | some s => simp [World.cell?, hs] at this; split at this <;> simp at this
      obtain ⟨b, o, sp⟩ := a
      simp only at h00
      subst h00
      refine ⟨b, o, rfl, rd_of_each ea k hk _ o (fun i hi j u hu => ?_)⟩
      rw [hlen] at hi
      have hu' : (ea (X i))[j]? = some u := by simpa using hu
      have := (hX i hi).2 j u hu'
      rwa [Deep.add_add, Addr.add_mid] at this
    · intro y hy
      obtain ⟨i, hi, rfl⟩ := List.mem_map.1 hy
      exact (hX i (List.mem_range.1 hi)).1
theorem cellsL : Try.prog.cellsOf 23 = 1 := by kernel_rfl
theorem open_il_f {fuel : Nat} {cs : List Value} {x : DataW H × List MemPlace} (hf : DataW.trod enc Try.prog W base spare held fuel 23 cs = some x) :
    ∃ v, cs = [v] ∧ ∃ l : List Int, rdRow W 1 v l.length (encI l) ∧ l.length ≤ maxLen ∧ ∀ x ∈ l, I64 x := by
  obtain ⟨v, e, l, h1, h2, h3⟩ := open_rows_f (fun x : Int => [.int .i64 x]) 1 (fun _ => rfl) (by decide) I64 Try.underlying23 cellsI (fun n cs x ht hlen => by
    obtain ⟨c0, rfl⟩ : ∃ c0, cs = [c0] := by
      match cs, hlen with
      | [c0], _ => exact ⟨c0, rfl⟩
    obtain ⟨k, e0, _, w0⟩ := DataW.trod_int Try.underlying3 ht
    simp at e0
    exact ⟨k, by rw [e0], wf_i64 w0⟩) hf
  exact ⟨v, e, l, h1, h2, h3⟩
theorem open_op {n : Nat} {cs : List Value} {x : DataW H × List MemPlace} (h : DataW.trod enc Try.prog W base spare held n 51 cs = some x) (hlen : cs.length = 9) : ∃ o, cs = opC o ∧ OpOk W o := by
  obtain ⟨xs, n1, _, _, _, hxl, hf⟩ := DataW.trod_struct Try.underlying51 h
  match cs, hlen, xs, hxl with
  | [c0, c1, c2, c3, c4, c5, c6, c7, c8], _, [y0, y1, y2, y3], _ =>
    have h0 := hf 0 _ rfl; have h1 := hf 1 _ rfl; have h2 := hf 2 _ rfl; have h3 := hf 3 _ rfl
    simp [cellsI, cellsP, cellsL] at h0 h1 h2 h3
    obtain ⟨k0, e0, _, w0⟩ := DataW.trod_int Try.underlying3 h0
    obtain ⟨k1, e1, _, w1⟩ := DataW.trod_int Try.underlying3 h1
    obtain ⟨p, e2, hp⟩ := open_pt h2 rfl
    obtain ⟨d, e3, l, hd, hdl, _⟩ := open_il_f h3
    simp at e0 e1 e2 e3
    obtain ⟨f0, f1, f2, f3, f4, f5⟩ := e2
    exact ⟨⟨k0, k1, p, l, d⟩, by simp [opC, e0, e1, e3, f0, f1, f2, f3, f4, f5], wf_i64 w0, wf_i64 w1, hp, hd, hdl⟩
theorem cellsO : Try.prog.cellsOf 51 = 9 := by kernel_rfl
theorem open_ops {v : Value} {d : DataW H} {p : List MemPlace} (hv : Value.okWide Try.prog W r b0 47 v) (h : DataW.Trod enc Try.prog W base spare held 47 v d p) :
    ∃ l : List OpR, rdRow W 9 v l.length (l.flatMap opC) ∧ l.length ≤ maxLen ∧ ∀ o ∈ l, OpOk W o :=
  open_rows opC 9 (fun _ => rfl) (by decide) (OpOk W) Try.underlying47 cellsO (fun _ _ _ ht hlen => open_op ht hlen) hv h
end
end Go.Proofs.Ytijgbfhjimlklaa

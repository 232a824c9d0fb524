/- Opening lists of calls that are arguments: an Op is a number and a record, its Deps a slice. -/
import Derived.Test.YtnneebdcaefgoaaFr
import Derived.Test.YtnneebdcaefgoaaCaI
import Derived.Test.YtnneebdcaefgoaaCaM
namespace Go.Proofs.Ytnneebdcaefgoaa
open Go.ChangeShapes Go.WideShapes Go.ChangeAt Go.RowKit Go.Deep

section
variable {H : Type} {enc : TypeId × Value → H} {W : World} {base b0 : Nat} {spare : Nat → Bool} {held : Bool} {r : Reach}
/-- A slice's cell, as it is read: its elements as a list. -/
theorem open_rows_f {P : Program} {α : Type} [Inhabited α] (ea : α → List Value) (k : Nat) (hk : ∀ x, (ea x).length = k) (hk0 : 0 < k) (Q : α → Prop) {t e : TypeId}
    (ht : P.underlying t = some (.slice e)) (hce : P.cellsOf e = k) (dec : ∀ n cs x, DataW.trod enc P W base spare held n e cs = some x → cs.length = k → ∃ y : α, cs = ea y ∧ Q y)
    {fuel : Nat} {cs : List Value} {x : DataW H × List MemPlace} (hf : DataW.trod enc P W base spare held fuel t cs = some x) :
    ∃ v, cs = [v] ∧ ∃ l : List α, rdRow W k v l.length (l.flatMap ea) ∧ l.length ≤ maxLen ∧ ∀ y ∈ l, Q y := by
  rcases Deep.open_slice ht hf with ⟨rfl, _⟩ | ⟨a, len, cap, m, n, D, Pl, rfl, _, hl, hm, hmm, _, hel⟩
  · exact ⟨_, rfl, [], ⟨by simp, none, 0, rfl, Nat.le_refl _, fun h => absurd h (by simp)⟩, Nat.zero_le _, by simp⟩
  · refine ⟨_, rfl, ?_⟩
    have hlm : len ≤ m := by rw [hmm]; split <;> omega
    have key : ∀ i, i < len → ∃ y : α, Q y ∧ ∀ j u, (ea y)[j]? = some u → W.cell? ((a.add (i * k)).add j) = some u := by
      intro i hi
      obtain ⟨cs, hc, htr⟩ := hel i (by omega)
      rw [hce] at hc
      have hcl : cs.length = k := by
        have h1 := cells?_get hc
        unfold World.cells? at hc
        split at hc
        · have := mapM_len _ _ hc
          simpa using this
        · cases hc
      obtain ⟨y, rfl, hq⟩ := dec _ _ _ htr hcl
      refine ⟨y, hq, fun j u hu => ?_⟩
      have hj : j < k := by rw [← hcl]; exact (List.getElem?_eq_some_iff.1 hu).1
      rw [cells?_get hc j hj, hu]
    obtain ⟨X, hX⟩ := Deep.choose_lt key
    have hlen : ((List.range len).map X).length = len := by simp
    refine ⟨(List.range len).map X, ⟨?_, some a, cap, by rw [hlen], by rw [hlen]; exact hl, fun hpos => ?_⟩, by rw [hlen]; omega, ?_⟩
    · have : ∀ l : List α, (l.flatMap ea).length = l.length * k := by
        intro l; induction l with
        | nil => simp
        | cons x r ih => rw [List.flatMap_cons, List.length_append, ih, hk, List.length_cons, Nat.add_mul]; omega
      exact this _
    · rw [hlen] at hpos
      have h00 : a.spot = none := by
        obtain ⟨u, hu⟩ : ∃ u, (ea (X 0))[0]? = some u := ⟨(ea (X 0))[0]'(by rw [hk]; exact hk0), by rw [List.getElem?_eq_getElem]⟩
        have := (hX 0 hpos).2 0 u hu
        simp [Addr.add] at this
        cases hs : a.spot with
        | none => rfl
        | some s => simp [World.cell?, hs] at this; split at this <;> simp at this
      obtain ⟨b, o, sp⟩ := a
      simp only at h00
      subst h00
      refine ⟨b, o, rfl, rd_of_each ea k hk _ o (fun i hi j u hu => ?_)⟩
      rw [hlen] at hi
      have hu' : (ea (X i))[j]? = some u := by simpa using hu
      have := (hX i hi).2 j u hu'
      rwa [Deep.add_add, Addr.add_mid] at this
    · intro y hy
      obtain ⟨i, hi, rfl⟩ := List.mem_map.1 hy
      exact (hX i (List.mem_range.1 hi)).1
theorem cellsI : Try.prog.cellsOf 3 = 1 := by kernel_rfl
theorem cellsS : Try.prog.cellsOf 9 = 1 := by kernel_rfl
theorem cellsL : Try.prog.cellsOf 31 = 1 := by kernel_rfl
theorem cellsR : Try.prog.cellsOf 33 = 9 := by kernel_rfl
theorem cellsT : Try.prog.cellsOf 30 = 3 := by kernel_rfl
theorem cells64 : Try.prog.cellsOf 2 = 1 := by kernel_rfl
theorem open_il_f {fuel : Nat} {cs : List Value} {x : DataW H × List MemPlace} (hf : DataW.trod enc Try.prog W base spare held fuel 31 cs = some x) :
    ∃ v, cs = [v] ∧ ∃ l : List Int, rdRow W 1 v l.length (encI l) ∧ l.length ≤ maxLen := by
  obtain ⟨v, e, l, h1, h2, _⟩ := open_rows_f (fun x : Int => [.int .i64 x]) 1 (fun _ => rfl) (by decide) (fun _ => True) Try.underlying31 cellsI (fun n cs x ht hlen => by
    obtain ⟨c0, rfl⟩ : ∃ c0, cs = [c0] := by
      match cs, hlen with
      | [c0], _ => exact ⟨c0, rfl⟩
    obtain ⟨k, e0, _, _⟩ := DataW.trod_int Try.underlying3 ht
    simp at e0
    exact ⟨k, by rw [e0], trivial⟩) hf
  exact ⟨v, e, l, h1, h2⟩
/-- A call, as it is read. -/
structure OpR where
  k : Int
  r : Rec
  d : Value
instance : Inhabited OpR := ⟨⟨0, ⟨0, ⟨#[]⟩, 0, 0, 0, 0, 0, 0, []⟩, .slice none 0 0⟩⟩
def opC (o : OpR) : List Value := [.int .i64 o.k, .int .i64 o.r.k, .string o.r.s, .int .i64 o.r.t, .int .i64 o.r.v, .int .i64 o.r.tier, .int .i64 o.r.c, .int .i64 o.r.st, .int .i64 o.r.q, o.d]
def RecI (r : Rec) : Prop := I64 r.k ∧ I64 r.t ∧ I64 r.v ∧ I64 r.tier ∧ I64 r.c ∧ I64 r.st ∧ I64 r.q
def OpOk (W : World) (o : OpR) : Prop := I64 o.k ∧ RecI o.r ∧ rdRow W 1 o.d o.r.d.length (encI o.r.d) ∧ o.r.d.length ≤ maxLen
theorem wf_i64 {n : Int} (h : (Lit.int .i64 n).wf = true) : I64 n := by
  have h1 : IntKind.i64.min = -9223372036854775808 := by decide
  have h2 : IntKind.i64.max = 9223372036854775807 := by decide
  simp [Lit.wf, h1, h2] at h
  unfold I64; omega
set_option maxRecDepth 100000 in
theorem open_op {n : Nat} {cs : List Value} {x : DataW H × List MemPlace} (h : DataW.trod enc Try.prog W base spare held n 40 cs = some x) (hlen : cs.length = 10) : ∃ o, cs = opC o ∧ OpOk W o := by
  obtain ⟨xs, n1, _, _, _, hxl, hf⟩ := DataW.trod_struct Try.underlying40 h
  match cs, hlen, xs, hxl with
  | [c0, c1, c2, c3, c4, c5, c6, c7, c8, c9], _, [y0, y1], _ =>
    have h0 := hf 0 _ rfl; have h1 := hf 1 _ rfl
    simp [cellsI, cellsR] at h0 h1
    obtain ⟨k0, e0, _, w0⟩ := DataW.trod_int Try.underlying3 h0
    obtain ⟨zs, n2, _, _, _, hzl, hg⟩ := DataW.trod_struct Try.underlying33 h1
    match zs, hzl with
    | [z0, z1, z2, z3, z4, z5, z6], _ =>
      have g0 := hg 0 _ rfl; have g1 := hg 1 _ rfl; have g2 := hg 2 _ rfl; have g3 := hg 3 _ rfl; have g4 := hg 4 _ rfl; have g5 := hg 5 _ rfl; have g6 := hg 6 _ rfl
      simp [cellsI, cellsS, cells64, cellsT, cellsL] at g0 g1 g2 g3 g4 g5 g6
      obtain ⟨k1, e1, _, w1⟩ := DataW.trod_int Try.underlying3 g0
      obtain ⟨s, e2, _, _⟩ := DataW.trod_string Try.underlying9 g1
      obtain ⟨k3, e3, _, w3⟩ := DataW.trod_int Try.underlying3 g2
      obtain ⟨k4, e4, _, w4⟩ := DataW.trod_int Try.underlying2 g3
      obtain ⟨k5, e5, _, w5⟩ := DataW.trod_int Try.underlying3 g4
      obtain ⟨us, n3, _, _, _, hul, hu⟩ := DataW.trod_struct Try.underlying30 g5
      obtain ⟨d, e9, l, hd, hdl⟩ := open_il_f g6
      match us, hul with
      | [u0, u1, u2], _ =>
        have j0 := hu 0 _ rfl; have j1 := hu 1 _ rfl; have j2 := hu 2 _ rfl
        simp [cellsI] at j0 j1 j2
        obtain ⟨k6, e6, _, w6⟩ := DataW.trod_int Try.underlying3 j0
        obtain ⟨k7, e7, _, w7⟩ := DataW.trod_int Try.underlying3 j1
        obtain ⟨k8, e8, _, w8⟩ := DataW.trod_int Try.underlying3 j2
        simp at e0 e1 e2 e3 e4 e5 e6 e7 e8 e9
        exact ⟨⟨k0, ⟨k1, s, k3, k4, k5, k6, k7, k8, l⟩, d⟩, by simp [opC, e0, e1, e2, e3, e4, e5, e6, e7, e8, e9], wf_i64 w0, ⟨wf_i64 w1, wf_i64 w3, wf_i64 w4, wf_i64 w5, wf_i64 w6, wf_i64 w7, wf_i64 w8⟩, hd, hdl⟩
theorem cellsO : Try.prog.cellsOf 40 = 10 := by kernel_rfl
theorem open_ops {v : Value} {d : DataW H} {p : List MemPlace} (hv : Value.okWide Try.prog W r b0 22 v) (h : DataW.Trod enc Try.prog W base spare held 22 v d p) :
    ∃ l : List OpR, rdRow W 10 v l.length (l.flatMap opC) ∧ l.length ≤ maxLen ∧ ∀ o ∈ l, OpOk W o :=
  open_rows opC 10 (fun _ => rfl) (by decide) (OpOk W) Try.underlying22 cellsO (fun _ _ _ ht hlen => open_op ht hlen) hv h
theorem open_il {v : Value} {d : DataW H} {p : List MemPlace} (hv : Value.okWide Try.prog W r b0 31 v) (h : DataW.Trod enc Try.prog W base spare held 31 v d p) :
    ∃ l : List Int, rdRow W 1 v l.length (encI l) ∧ l.length ≤ maxLen := by
  obtain ⟨l, h1, h2, _⟩ := open_rows (fun x : Int => [.int .i64 x]) 1 (fun _ => rfl) (by decide) (fun _ => True) Try.underlying31 cellsI (fun n cs x ht hlen => by
    obtain ⟨c0, rfl⟩ : ∃ c0, cs = [c0] := by
      match cs, hlen with
      | [c0], _ => exact ⟨c0, rfl⟩
    obtain ⟨k, e0, _, _⟩ := DataW.trod_int Try.underlying3 ht
    simp at e0
    exact ⟨k, by rw [e0], trivial⟩) hv h
  exact ⟨l, h1, h2⟩
end
end Go.Proofs.Ytnneebdcaefgoaa

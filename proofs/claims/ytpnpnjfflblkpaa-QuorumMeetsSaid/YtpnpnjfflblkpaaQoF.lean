/- QuorumMeets: its arguments opened; Meet; a number and 7; a literal of one point. -/
import Derived.Test.YtpnpnjfflblkpaaQoE
import Derived.Test.YtpnpnjfflblkpaaFrQ
import Derived.Laws.BitsLemmas
namespace Go.Proofs.Ytpnpnjfflblkpaa
open Go.ChangeShapes Go.WideShapes Go.ChangeAt Go.RowKit Go.Deep

theorem and7_ok (x : Int) : ∃ n : Nat, n ≤ 7 ∧ bits .and .i64 x 7 = (n : Int) := by
  have h : (BitVec.ofInt 64 x &&& BitVec.ofInt 64 7).toNat ≤ 7 := by
    rw [BitVec.toNat_and]
    exact Nat.le_trans Nat.and_le_right (by decide)
  refine ⟨_, h, ?_⟩
  show IntKind.i64.wrap ((BitVec.ofInt 64 x &&& BitVec.ofInt 64 7).toNat : Nat) = _
  obtain ⟨n, hn⟩ : ∃ n, (BitVec.ofInt 64 x &&& BitVec.ofInt 64 7).toNat = n := ⟨_, rfl⟩
  rw [hn] at h ⊢
  rw [IntKind.wrap_i64]
  omega
def meetB (n w r : Nat) : Bool := decide (w ≤ n ∧ r ≤ n ∧ n < w + r)
set_option maxRecDepth 100000 in
theorem meet_calls (n k r : Nat) (h1 : 1 ≤ n ∧ n ≤ 8) (h2 : 1 ≤ k ∧ k ≤ 8) (h3 : 1 ≤ r ∧ r ≤ 8) (w : World) : Calls Try.prog 9 #[.int .i64 (n : Int), .int .i64 (k : Int), .int .i64 (r : Int)] w fun e w' => e = .returned (.bool (meetB n k r)) ∧ Gr w w' := by
  have a1 : (1 : Int) ≤ k := by omega
  have a2 : (1 : Int) ≤ r := by omega
  have hcs : (¬ (k : Int) ≤ n ∧ meetB n k r = false) ∨ ((k : Int) ≤ n ∧ ¬ (r : Int) ≤ n ∧ meetB n k r = false) ∨ ((k : Int) ≤ n ∧ (r : Int) ≤ n ∧ ¬ (n : Int) - r < k ∧ meetB n k r = false) ∨ ((k : Int) ≤ n ∧ (r : Int) ≤ n ∧ (n : Int) - r < k ∧ meetB n k r = true) := by
    unfold meetB
    by_cases c1 : k ≤ n
    · by_cases c2 : r ≤ n
      · by_cases c3 : n < k + r
        · exact .inr (.inr (.inr ⟨by omega, by omega, by omega, decide_eq_true ⟨c1, c2, c3⟩⟩))
        · exact .inr (.inr (.inl ⟨by omega, by omega, by omega, decide_eq_false fun z => c3 z.2.2⟩))
      · exact .inr (.inl ⟨by omega, by omega, decide_eq_false fun z => c2 z.2.1⟩)
    · exact .inl ⟨by omega, decide_eq_false fun z => c1 z.1⟩
  obtain ⟨t, et⟩ : ∃ t, meetB n k r = t := ⟨_, rfl⟩
  rw [et] at hcs ⊢
  clear et
  rcases hcs with ⟨b1, rfl⟩ | ⟨b1, b2, rfl⟩ | ⟨b1, b2, b3, rfl⟩ | ⟨b1, b2, b3, rfl⟩
  all_goals
    go_enter Try.func9, Try.ntmps9
    go_wp2_with fail
    go_ret
    exact ⟨rfl, by (repeat (first | exact Gr.rfl' | refine Gr.al ?_ _ | refine Gr.dr ?_ | refine Gr.drN ?_ | refine Gr.sc ?_ (by simp <;> omega) _ | refine Gr.tr ?_ (by assumption)))⟩
/-- A literal of one point: a row of the call's own. -/
theorem own_lit (w : World) (N : Nat) (p : Pt) (hN : N ≤ w.heap.size) : (w.alloc (.cells (ptC p).toArray 26)).ownsRow N 26 6 (.slice (some ⟨w.heap.size, 0, none⟩) 1 1) [p].length (encP [p]) := by
  have e : encP [p] = ptC p := by unfold encP; simp
  refine ⟨by rw [e]; rfl, .inr ⟨w.heap.size, 1, (ptC p).toArray, rfl, hN, heap_alloc_new w _, Nat.le_refl _, by unfold maxLen; decide, rfl, ?_⟩⟩
  rw [e]; rfl
theorem array2 {α : Type} {cs : Array α} (h : cs.size = 2) : ∃ c0 c1, cs = #[c0, c1] := by
  obtain ⟨l⟩ := cs
  match l, h with
  | [c0, c1], _ => exact ⟨c0, c1, rfl⟩
theorem array3 {α : Type} {cs : Array α} (h : cs.size = 3) : ∃ c0 c1 c2, cs = #[c0, c1, c2] := by
  obtain ⟨l⟩ := cs
  match l, h with
  | [c0, c1, c2], _ => exact ⟨c0, c1, c2, rfl⟩
set_option maxRecDepth 100000
section
variable {H : Type} {enc : TypeId × Value → H} {W : World} {base b0 : Nat} {spare : Nat → Bool} {held : Bool} {r : Reach}
theorem open_int3 {v : Value} {d : DataW H} {p : List MemPlace} (hv : Value.okWide Try.prog W r b0 22 v) (h : DataW.Trod enc Try.prog W base spare held 22 v d p) :
    ∃ a b c : Int, v = .agg #[.int .i64 a, .int .i64 b, .int .i64 c] := by
  have hC : Try.prog.cellsOf 22 = 3 := by kernel_rfl
  simp only [Value.okWide, Try.underlying22] at hv
  obtain ⟨cs, rfl, hsz, _⟩ := hv
  obtain ⟨c0, c1, c2, rfl⟩ := array3 (hsz.trans hC)
  obtain ⟨fuel, hf⟩ := h
  cases fuel with
  | zero => simp [DataW.trod] at hf
  | succ n =>
    unfold DataW.trod at hf
    rw [Try.underlying22] at hf
    have r3 : List.range 3 = [0, 1, 2] := rfl
    simp [r3, cellsI, Value.cells] at hf
    obtain ⟨_, hf⟩ := hf
    cases h0 : DataW.trod enc Try.prog W base spare held n 3 [c0] with
    | none => simp [h0] at hf
    | some y0 =>
      cases h1 : DataW.trod enc Try.prog W base spare held n 3 [c1] with
      | none => simp [h0, h1] at hf
      | some y1 =>
        cases h2 : DataW.trod enc Try.prog W base spare held n 3 [c2] with
        | none => simp [h0, h1, h2] at hf
        | some y2 =>
          obtain ⟨a, e0, _, _⟩ := DataW.trod_int Try.underlying3 h0
          obtain ⟨b, e1, _, _⟩ := DataW.trod_int Try.underlying3 h1
          obtain ⟨c, e2, _, _⟩ := DataW.trod_int Try.underlying3 h2
          simp at e0 e1 e2
          exact ⟨a, b, c, by rw [e0, e1, e2]⟩
theorem open_is_f {fuel : Nat} {cs : List Value} {x : DataW H × List MemPlace} (hf : DataW.trod enc Try.prog W base spare held fuel 27 cs = some x) :
    ∃ v, cs = [v] ∧ ∃ l : List Int, rdRow W 1 v l.length (encI l) ∧ l.length ≤ maxLen ∧ ∀ x ∈ l, I64 x :=
  open_rows_f (fun x : Int => [.int .i64 x]) 1 (fun _ => rfl) (by decide) I64 Try.underlying27 cellsI (fun n cs x ht hlen => by
    obtain ⟨c0, rfl⟩ : ∃ c0, cs = [c0] := by
      match cs, hlen with
      | [c0], _ => exact ⟨c0, rfl⟩
    obtain ⟨k, e0, _, w0⟩ := DataW.trod_int Try.underlying3 ht
    simp at e0
    exact ⟨k, by rw [e0], wf_i64 w0⟩) hf
theorem open_two_is {v : Value} {d : DataW H} {p : List MemPlace} (hv : Value.okWide Try.prog W r b0 28 v) (h : DataW.Trod enc Try.prog W base spare held 28 v d p) :
    ∃ v0 v1, v = .agg #[v0, v1] ∧ (∃ l : List Int, rdRow W 1 v0 l.length (encI l) ∧ l.length ≤ maxLen ∧ ∀ x ∈ l, I64 x) ∧ ∃ l : List Int, rdRow W 1 v1 l.length (encI l) ∧ l.length ≤ maxLen ∧ ∀ x ∈ l, I64 x := by
  have hC : Try.prog.cellsOf 28 = 2 := by kernel_rfl
  have hC1 : Try.prog.cellsOf 27 = 1 := by kernel_rfl
  simp only [Value.okWide, Try.underlying28] at hv
  obtain ⟨cs, rfl, hsz, _⟩ := hv
  obtain ⟨c0, c1, rfl⟩ := array2 (hsz.trans hC)
  obtain ⟨fuel, hf⟩ := h
  cases fuel with
  | zero => simp [DataW.trod] at hf
  | succ n =>
    unfold DataW.trod at hf
    rw [Try.underlying28] at hf
    have r2 : List.range 2 = [0, 1] := rfl
    simp [r2, hC1, Value.cells] at hf
    obtain ⟨_, hf⟩ := hf
    cases h0 : DataW.trod enc Try.prog W base spare held n 27 [c0] with
    | none => simp [h0] at hf
    | some y0 =>
      cases h1 : DataW.trod enc Try.prog W base spare held n 27 [c1] with
      | none => simp [h0, h1] at hf
      | some y1 =>
        obtain ⟨a, e0, l0⟩ := open_is_f h0
        obtain ⟨b, e1, l1⟩ := open_is_f h1
        simp at e0 e1
        subst e0 e1
        exact ⟨_, _, rfl, l0, l1⟩
theorem open_point {v : Value} {d : DataW H} {p : List MemPlace} (hv : Value.okWide Try.prog W r b0 26 v) (h : DataW.Trod enc Try.prog W base spare held 26 v d p) :
    ∃ x : Pt, v = ptV x ∧ PtI x := by
  have hC : Try.prog.cellsOf 26 = 6 := cellsP
  obtain ⟨cs, rfl, hsz⟩ := okWide_struct Try.underlying26 hv
  obtain ⟨fuel, hf⟩ := h
  obtain ⟨x, e, hx⟩ := open_pt hf (by show cs.toList.length = 6; rw [Array.length_toList]; exact hsz.trans hC)
  refine ⟨x, ?_, hx⟩
  have e' : cs.toList = ptC x := e
  show Value.agg cs = .agg (ptC x).toArray
  rw [← e']
end
end Go.Proofs.Ytpnpnjfflblkpaa

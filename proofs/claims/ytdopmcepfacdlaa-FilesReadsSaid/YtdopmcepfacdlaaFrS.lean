/- Opening a list of numbers, and two texts, that are arguments. -/
import Derived.Test.YtdopmcepfacdlaaFr
import Derived.Test.YtdopmcepfacdlaaFdB
namespace Go.Proofs.Ytdopmcepfacdlaa
open Go.ChangeShapes Go.WideShapes Go.ChangeAt Go.RowKit  Go.Deep

theorem cellsI : Try.prog.cellsOf 3 = 1 := by kernel_rfl
theorem array2 {α : Type} {cs : Array α} (h : cs.size = 2) : ∃ c0 c1, cs = #[c0, c1] := by
  obtain ⟨l⟩ := cs
  match l, h with
  | [c0, c1], _ => exact ⟨c0, c1, rfl⟩
set_option maxRecDepth 100000
section
variable {H : Type} {enc : TypeId × Value → H} {W : World} {base b0 : Nat} {spare : Nat → Bool} {held : Bool} {r : Reach}
theorem cellsStr : Try.prog.cellsOf 9 = 1 := by kernel_rfl
theorem open_is {v : Value} {d : DataW H} {p : List MemPlace} (hv : Value.okWide Try.prog W r b0 23 v) (h : DataW.Trod enc Try.prog W base spare held 23 v d p) :
    ∃ l : List Int, rdRow W 1 v l.length (encI l) ∧ l.length ≤ maxLen ∧ ∀ x ∈ l, I64 x :=
  open_rows (fun x : Int => [.int .i64 x]) 1 (fun _ => rfl) (by decide) I64 Try.underlying23 cellsI (fun n cs x ht hlen => by
    obtain ⟨c0, rfl⟩ : ∃ c0, cs = [c0] := by
      match cs, hlen with
      | [c0], _ => exact ⟨c0, rfl⟩
    obtain ⟨k, e0, _, w0⟩ := DataW.trod_int Try.underlying3 ht
    simp at e0
    exact ⟨k, by rw [e0], wf_i64 w0⟩) hv h
theorem encT_flat : ∀ l : List ByteArray, (l.flatMap fun x => [Value.string x]) = encT l
  | [] => rfl
  | x :: r => by rw [List.flatMap_cons, encT_flat r]; rfl
/-- A list of texts. -/
theorem open_ss {v : Value} {d : DataW H} {p : List MemPlace} (hv : Value.okWide Try.prog W r b0 22 v) (h : DataW.Trod enc Try.prog W base spare held 22 v d p) :
    ∃ l : List ByteArray, rdRow W 1 v l.length (encT l) ∧ l.length ≤ maxLen := by
  obtain ⟨l, h1, h2, _⟩ := open_rows (fun x : ByteArray => [.string x]) 1 (fun _ => rfl) (by decide) (fun _ => True) Try.underlying22 cellsStr (fun n cs x ht hlen => by
    obtain ⟨c0, rfl⟩ : ∃ c0, cs = [c0] := by
      match cs, hlen with
      | [c0], _ => exact ⟨c0, rfl⟩
    obtain ⟨k, e0, _, _⟩ := DataW.trod_string Try.underlying9 ht
    simp at e0
    exact ⟨k, by rw [e0], trivial⟩) hv h
  exact ⟨l, by rw [← encT_flat]; exact h1, h2⟩
theorem open_two {v : Value} {d : DataW H} {p : List MemPlace} (hv : Value.okWide Try.prog W r b0 41 v) (h : DataW.Trod enc Try.prog W base spare held 41 v d p) :
    ∃ a b : ByteArray, v = .agg #[.string a, .string b] := by
  have hC : Try.prog.cellsOf 41 = 2 := by kernel_rfl
  simp only [Value.okWide, Try.underlying41] at hv
  obtain ⟨cs, rfl, hsz, _⟩ := hv
  obtain ⟨c0, c1, rfl⟩ := array2 (hsz.trans hC)
  obtain ⟨fuel, hf⟩ := h
  cases fuel with
  | zero => simp [DataW.trod] at hf
  | succ n =>
    unfold DataW.trod at hf
    rw [Try.underlying41] at hf
    have r2 : List.range 2 = [0, 1] := rfl
    simp [r2, cellsStr, Value.cells] at hf
    obtain ⟨_, hf⟩ := hf
    cases h0 : DataW.trod enc Try.prog W base spare held n 9 [c0] with
    | none => simp [h0] at hf
    | some y0 =>
      cases h1 : DataW.trod enc Try.prog W base spare held n 9 [c1] with
      | none => simp [h0, h1] at hf
      | some y1 =>
        obtain ⟨a, e0, _, _⟩ := DataW.trod_string Try.underlying9 h0
        obtain ⟨b, e1, _, _⟩ := DataW.trod_string Try.underlying9 h1
        simp at e0 e1
        exact ⟨a, b, by rw [e0, e1]⟩
end
end Go.Proofs.Ytdopmcepfacdlaa

/- Opening lists of numbers and of texts that are arguments. -/
import Derived.Test.YtomhdkppgfcaaaaFr
import Derived.Test.YtomhdkppgfcaaaaRgM
import Derived.Lib.SmallJoins
import Derived.Deep.Slices
namespace Go.Proofs.Ytomhdkppgfcaaaa
open Go.ChangeShapes Go.WideShapes Go.ChangeAt Go.RowKit Go.Joins Go.Deep

section
variable {H : Type} {enc : TypeId × Value → H} {W : World} {base b0 : Nat} {spare : Nat → Bool} {held : Bool} {r : Reach}
theorem cellsI : Try.prog.cellsOf 3 = 1 := by kernel_rfl
theorem cellsS : Try.prog.cellsOf 9 = 1 := by kernel_rfl
theorem open_il {v : Value} {d : DataW H} {p : List MemPlace} (hv : Value.okWide Try.prog W r b0 27 v) (h : DataW.Trod enc Try.prog W base spare held 27 v d p) :
    ∃ l : List Int, rdRow W 1 v l.length (encI l) ∧ l.length ≤ maxLen := by
  obtain ⟨l, h1, h2, _⟩ := open_rows (fun x : Int => [.int .i64 x]) 1 (fun _ => rfl) (by decide) (fun _ => True) Try.underlying27 cellsI (fun n cs x ht hlen => by
    obtain ⟨c0, rfl⟩ : ∃ c0, cs = [c0] := by
      match cs, hlen with
      | [c0], _ => exact ⟨c0, rfl⟩
    obtain ⟨k, e0, _, _⟩ := DataW.trod_int Try.underlying3 ht
    simp at e0
    exact ⟨k, by rw [e0], trivial⟩) hv h
  exact ⟨l, h1, h2⟩
theorem open_sl {v : Value} {d : DataW H} {p : List MemPlace} (hv : Value.okWide Try.prog W r b0 28 v) (h : DataW.Trod enc Try.prog W base spare held 28 v d p) :
    ∃ l : List ByteArray, rdRow W 1 v l.length (encT l) ∧ l.length ≤ maxLen := by
  obtain ⟨l, h1, h2, _⟩ := open_rows (fun x : ByteArray => [.string x]) 1 (fun _ => rfl) (by decide) (fun _ => True) Try.underlying28 cellsS (fun n cs x ht hlen => by
    obtain ⟨c0, rfl⟩ : ∃ c0, cs = [c0] := by
      match cs, hlen with
      | [c0], _ => exact ⟨c0, rfl⟩
    obtain ⟨k, e0, _, _⟩ := DataW.trod_string Try.underlying9 ht
    simp at e0
    exact ⟨k, by rw [e0], trivial⟩) hv h
  exact ⟨l, h1, h2⟩
end
end Go.Proofs.Ytomhdkppgfcaaaa

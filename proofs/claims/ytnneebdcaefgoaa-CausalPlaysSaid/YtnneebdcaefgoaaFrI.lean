/- Opening a list of numbers that is an argument. -/
import Derived.Test.YtnneebdcaefgoaaFrO
namespace Go.Proofs.Ytnneebdcaefgoaa
open Go.ChangeShapes Go.WideShapes Go.ChangeAt Go.RowKit Go.Deep

section
variable {H : Type} {enc : TypeId × Value → H} {W : World} {base b0 : Nat} {spare : Nat → Bool} {held : Bool} {r : Reach}
theorem open_is {v : Value} {d : DataW H} {p : List MemPlace} (hv : Value.okWide Try.prog W r b0 31 v) (h : DataW.Trod enc Try.prog W base spare held 31 v d p) :
    ∃ l : List Int, rdRow W 1 v l.length (encI l) ∧ l.length ≤ maxLen ∧ ∀ x ∈ l, I64 x :=
  open_rows (fun x : Int => [.int .i64 x]) 1 (fun _ => rfl) (by decide) I64 Try.underlying31 cellsI (fun n cs x ht hlen => by
    obtain ⟨c0, rfl⟩ : ∃ c0, cs = [c0] := by
      match cs, hlen with
      | [c0], _ => exact ⟨c0, rfl⟩
    obtain ⟨k, e0, _, w0⟩ := DataW.trod_int Try.underlying3 ht
    simp at e0
    exact ⟨k, by rw [e0], wf_i64 w0⟩) hv h
end
end Go.Proofs.Ytnneebdcaefgoaa

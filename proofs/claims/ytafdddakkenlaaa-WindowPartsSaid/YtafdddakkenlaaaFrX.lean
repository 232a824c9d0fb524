/- Opening a span that is an argument. -/
import Derived.Test.YtafdddakkenlaaaFrW
namespace Go.Proofs.Ytafdddakkenlaaa
open Go.ChangeShapes Go.WideShapes Go.ChangeAt Go.RowKit Go.Joins Go.Deep

section
variable {H : Type} {enc : TypeId × Value → H} {W : World} {base b0 : Nat} {spare : Nat → Bool} {held : Bool} {r : Reach}
theorem cellsSpan : Try.prog.cellsOf 26 = 2 := by kernel_rfl
theorem open_span {v : Value} {d : DataW H} {p : List MemPlace} (hv : Value.okWide Try.prog W r b0 26 v) (h : DataW.Trod enc Try.prog W base spare held 26 v d p) :
    ∃ a b : Int, v = .agg #[.int .i64 a, .int .i64 b] := by
  obtain ⟨c0, c1, y0, y1, m, rfl, rfl, rfl, h0, h1⟩ := open_agg2 Try.underlying26 (by kernel_rfl) cellsSpan hv h
  obtain ⟨k, e0, _, _⟩ := DataW.trod_int Try.underlying3 h0
  obtain ⟨f, e1, _, _⟩ := DataW.trod_int Try.underlying3 h1
  simp at e0 e1
  exact ⟨k, f, by rw [e0, e1]⟩
end
end Go.Proofs.Ytafdddakkenlaaa

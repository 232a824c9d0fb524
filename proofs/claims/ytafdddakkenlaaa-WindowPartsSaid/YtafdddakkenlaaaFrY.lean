/- Opening a pair of numbers that is an argument. -/
import Derived.Test.YtafdddakkenlaaaFrX
import Derived.OpenShut
namespace Go.Proofs.Ytafdddakkenlaaa
open Go.ChangeShapes Go.WideShapes Go.ChangeAt Go.RowKit Go.Joins Go.Deep

section
variable {H : Type} {enc : TypeId × Value → H} {W : World} {base b0 : Nat} {spare : Nat → Bool} {held : Bool} {r : Reach}
theorem cellsArr : Try.prog.cellsOf 47 = 2 := by kernel_rfl
theorem cellsInt : Try.prog.cellsOf 3 = 1 := by kernel_rfl
theorem open_pair {v : Value} {d : DataW H} {p : List MemPlace} (hv : Value.okWide Try.prog W r b0 47 v) (h : DataW.Trod enc Try.prog W base spare held 47 v d p) :
    ∃ a b : Int, v = .agg #[.int .i64 a, .int .i64 b] := by
  simp only [Value.okWide, Try.underlying47] at hv
  obtain ⟨cs, rfl, hsz, _⟩ := hv
  obtain ⟨c0, c1, rfl⟩ := array2 (hsz.trans cellsArr)
  obtain ⟨fuel, hf⟩ := h
  obtain ⟨xs, m, _, _, _, hl, hh⟩ := DataW.trod_array Try.underlying47 hf
  have z := cellsInt
  have h0 := hh 0 (by decide)
  have h1 := hh 1 (by decide)
  simp only [z, Value.cells] at h0 h1
  match xs, hl with
  | [y0, y1], _ =>
    simp at h0 h1
    obtain ⟨k, e0, _, _⟩ := DataW.trod_int Try.underlying3 h0
    obtain ⟨f, e1, _, _⟩ := DataW.trod_int Try.underlying3 h1
    simp at e0 e1
    exact ⟨k, f, by rw [e0, e1]⟩
end
end Go.Proofs.Ytafdddakkenlaaa

/- Opening the key that is asked. -/
import Derived.Test.YtomhdkppgfcaaaaFrR
namespace Go.Proofs.Ytomhdkppgfcaaaa
open Go.ChangeShapes Go.WideShapes Go.ChangeAt Go.RowKit Go.Joins Go.Deep

theorem array5 {α : Type} {cs : Array α} (h : cs.size = 5) : ∃ c0 c1 c2 c3 c4, cs = #[c0, c1, c2, c3, c4] := by
  obtain ⟨l⟩ := cs
  match l, h with
  | [c0, c1, c2, c3, c4], _ => exact ⟨c0, c1, c2, c3, c4, rfl⟩
section
variable {H : Type} {enc : TypeId × Value → H} {W : World} {base b0 : Nat} {spare : Nat → Bool} {held : Bool} {r : Reach}
theorem open_key {v : Value} {d : DataW H} {p : List MemPlace} (hv : Value.okWide Try.prog W r b0 43 v) (h : DataW.Trod enc Try.prog W base spare held 43 v d p) :
    ∃ (s : ByteArray) (ep most node place : Int), v = .agg #[.string s, .int .i64 ep, .int .i64 most, .int .i64 node, .int .i64 place] := by
  have hC : Try.prog.cellsOf 43 = 5 := by kernel_rfl
  obtain ⟨cs, rfl, hsz⟩ := okWide_struct Try.underlying43 hv
  obtain ⟨c0, c1, c2, c3, c4, rfl⟩ := array5 (hsz.trans hC)
  obtain ⟨fuel, hf⟩ := h
  obtain ⟨xs, n, _, _, hl, hlen, hf⟩ := DataW.trod_struct Try.underlying43 hf
  match xs, hlen with
  | [y0, y1, y2, y3, y4], _ =>
    have h0 := hf 0 _ rfl; have h1 := hf 1 _ rfl; have h2 := hf 2 _ rfl; have h3 := hf 3 _ rfl; have h4 := hf 4 _ rfl
    simp [Value.cells, cellsI, cellsS] at h0 h1 h2 h3 h4
    obtain ⟨s, e0, _, _⟩ := DataW.trod_string Try.underlying9 h0
    obtain ⟨k1, e1, _, _⟩ := DataW.trod_int Try.underlying3 h1
    obtain ⟨k2, e2, _, _⟩ := DataW.trod_int Try.underlying3 h2
    obtain ⟨k3, e3, _, _⟩ := DataW.trod_int Try.underlying3 h3
    obtain ⟨k4, e4, _, _⟩ := DataW.trod_int Try.underlying3 h4
    simp at e0 e1 e2 e3 e4
    exact ⟨s, k1, k2, k3, k4, by rw [e0, e1, e2, e3, e4]⟩
end
end Go.Proofs.Ytomhdkppgfcaaaa

/- Opening lists of numbers and of points that are arguments. -/
import Derived.Test.YtpnpnjfflblkpaaFr
import Derived.Test.YtpnpnjfflblkpaaPtE
namespace Go.Proofs.Ytpnpnjfflblkpaa
open Go.ChangeShapes Go.WideShapes Go.ChangeAt Go.RowKit Go.Deep

theorem cellsI : Try.prog.cellsOf 3 = 1 := by kernel_rfl
theorem cellsS : Try.prog.cellsOf 9 = 1 := by kernel_rfl
theorem cellsT : Try.prog.cellsOf 24 = 3 := by kernel_rfl
theorem cells64 : Try.prog.cellsOf 2 = 1 := by kernel_rfl
theorem cellsP : Try.prog.cellsOf 26 = 6 := by kernel_rfl
set_option maxRecDepth 100000
section
variable {H : Type} {enc : TypeId × Value → H} {W : World} {base b0 : Nat} {spare : Nat → Bool} {held : Bool} {r : Reach}
theorem open_is {v : Value} {d : DataW H} {p : List MemPlace} (hv : Value.okWide Try.prog W r b0 27 v) (h : DataW.Trod enc Try.prog W base spare held 27 v d p) :
    ∃ l : List Int, rdRow W 1 v l.length (encI l) ∧ l.length ≤ maxLen ∧ ∀ x ∈ l, I64 x :=
  open_rows (fun x : Int => [.int .i64 x]) 1 (fun _ => rfl) (by decide) I64 Try.underlying27 cellsI (fun n cs x ht hlen => by
    obtain ⟨c0, rfl⟩ : ∃ c0, cs = [c0] := by
      match cs, hlen with
      | [c0], _ => exact ⟨c0, rfl⟩
    obtain ⟨k, e0, _, w0⟩ := DataW.trod_int Try.underlying3 ht
    simp at e0
    exact ⟨k, by rw [e0], wf_i64 w0⟩) hv h
theorem open_pt {n : Nat} {cs : List Value} {x : DataW H × List MemPlace} (h : DataW.trod enc Try.prog W base spare held n 26 cs = some x) (hlen : cs.length = 6) : ∃ p : Pt, cs = ptC p ∧ PtI p := by
  obtain ⟨zs, n2, _, _, _, hzl, hg⟩ := DataW.trod_struct Try.underlying26 h
  match cs, hlen, zs, hzl with
  | [c0, c1, c2, c3, c4, c5], _, [z0, z1, z2, z3], _ =>
    have g0 := hg 0 _ rfl; have g1 := hg 1 _ rfl; have g2 := hg 2 _ rfl; have g3 := hg 3 _ rfl
    simp [cellsI, cellsS, cells64, cellsT] at g0 g1 g2 g3
    obtain ⟨s, e0, _, _⟩ := DataW.trod_string Try.underlying9 g0
    obtain ⟨k1, e1, _, w1⟩ := DataW.trod_int Try.underlying3 g1
    obtain ⟨k2, e2, _, w2⟩ := DataW.trod_int Try.underlying2 g2
    obtain ⟨us, n3, _, _, _, hul, hu⟩ := DataW.trod_struct Try.underlying24 g3
    match us, hul with
    | [u0, u1, u2], _ =>
      have j0 := hu 0 _ rfl; have j1 := hu 1 _ rfl; have j2 := hu 2 _ rfl
      simp [cellsI] at j0 j1 j2
      obtain ⟨k3, e3, _, w3⟩ := DataW.trod_int Try.underlying3 j0
      obtain ⟨k4, e4, _, w4⟩ := DataW.trod_int Try.underlying3 j1
      obtain ⟨k5, e5, _, w5⟩ := DataW.trod_int Try.underlying3 j2
      simp at e0 e1 e2 e3 e4 e5
      exact ⟨⟨s, k1, k2, k3, k4, k5⟩, by simp [e0, e1, e2, e3, e4, e5], wf_i64 w1, wf_i64 w2, wf_i64 w3, wf_i64 w4, wf_i64 w5⟩
theorem open_pts {v : Value} {d : DataW H} {p : List MemPlace} (hv : Value.okWide Try.prog W r b0 37 v) (h : DataW.Trod enc Try.prog W base spare held 37 v d p) :
    ∃ l : List Pt, rdRow W 6 v l.length (encP l) ∧ l.length ≤ maxLen ∧ ∀ x ∈ l, PtI x :=
  open_rows ptC 6 (fun _ => rfl) (by decide) PtI Try.underlying37 cellsP (fun _ _ _ ht hlen => open_pt ht hlen) hv h
end
end Go.Proofs.Ytpnpnjfflblkpaa

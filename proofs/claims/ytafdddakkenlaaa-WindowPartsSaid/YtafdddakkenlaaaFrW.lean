import Derived.Test.YtafdddakkenlaaaFr
import Derived.Lib.SmallJoins
import Derived.Deep.Slices
namespace Go.Proofs.Ytafdddakkenlaaa
open Go.ChangeShapes Go.WideShapes Go.ChangeAt Go.RowKit Go.Joins Go.Deep

section
variable {H : Type} {enc : TypeId × Value → H} {W : World} {base b0 : Nat} {spare : Nat → Bool} {held : Bool} {r : Reach}
theorem cells30 : Try.prog.cellsOf 30 = 3 := by kernel_rfl
theorem open_op {v : Value} {d : DataW H} {p : List MemPlace} (hv : Value.okWide Try.prog W r b0 30 v) (h : DataW.Trod enc Try.prog W base spare held 30 v d p) :
    ∃ k f n : Int, v = .agg #[.int .i64 k, .int .i64 f, .int .i64 n] := by
  obtain ⟨c0, c1, c2, y0, y1, y2, m, rfl, rfl, rfl, h0, h1, h2⟩ := open_agg3 Try.underlying30 (by kernel_rfl) cells30 hv h
  obtain ⟨k, e0, _, _⟩ := DataW.trod_int Try.underlying3 h0
  obtain ⟨f, e1, _, _⟩ := DataW.trod_int Try.underlying3 h1
  obtain ⟨n, e2, _, _⟩ := DataW.trod_int Try.underlying3 h2
  simp at e0 e1 e2
  exact ⟨k, f, n, by rw [e0, e1, e2]⟩
abbrev Op3 := Int × Int × Int
def encO (l : List Op3) : List Value := l.flatMap fun x => [.int .i64 x.1, .int .i64 x.2.1, .int .i64 x.2.2]
theorem encO_len (l : List Op3) : (encO l).length = l.length * 3 := by
  induction l with
  | nil => rfl
  | cons x r ih => simp only [encO, List.flatMap_cons, List.length_append, List.length_cons] at *; rw [ih]; simp; omega
theorem encO_get (l : List Op3) (k : Nat) (h : k < l.length) : (encO l)[k * 3]? = some (.int .i64 (l[k]).1) ∧ (encO l)[k * 3 + 1]? = some (.int .i64 (l[k]).2.1) ∧ (encO l)[k * 3 + 2]? = some (.int .i64 (l[k]).2.2) := by
  induction l generalizing k with
  | nil => simp at h
  | cons x r ih =>
    cases k with
    | zero => simp [encO]
    | succ k =>
      have := ih k (by simpa using h)
      rw [show (k + 1) * 3 = k * 3 + 1 + 1 + 1 by omega]
      simpa [encO] using this
theorem open_ops {v : Value} {d : DataW H} {p : List MemPlace} (hv : Value.okWide Try.prog W r b0 49 v) (h : DataW.Trod enc Try.prog W base spare held 49 v d p) :
    ∃ l : List Op3, rdRow W 3 v l.length (encO l) ∧ l.length ≤ maxLen := by
  obtain ⟨l, h1, h2, _⟩ := open_rows (fun x : Op3 => [.int .i64 x.1, .int .i64 x.2.1, .int .i64 x.2.2]) 3 (fun _ => rfl) (by decide) (fun _ => True) Try.underlying49 cells30 (fun n cs x ht hlen => by
    obtain ⟨y0, y1, y2, n', _, hl, h0, h1, h2⟩ := Go.Deep.trod_struct3 Try.underlying30 ht
    obtain ⟨c0, c1, c2, rfl⟩ : ∃ c0 c1 c2, cs = [c0, c1, c2] := by
      match cs, hlen with
      | [c0, c1, c2], _ => exact ⟨c0, c1, c2, rfl⟩
    have z : Try.prog.cellsOf 3 = 1 := by kernel_rfl
    obtain ⟨k, e0, _, _⟩ := DataW.trod_int Try.underlying3 h0
    obtain ⟨f, e1, _, _⟩ := DataW.trod_int Try.underlying3 h1
    obtain ⟨q, e2, _, _⟩ := DataW.trod_int Try.underlying3 h2
    simp [z] at e0 e1 e2
    exact ⟨(k, f, q), by rw [e0, e1, e2], trivial⟩) hv h
  exact ⟨l, h1, h2⟩
end
end Go.Proofs.Ytafdddakkenlaaa

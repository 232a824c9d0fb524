/- The map of a buffer: what is held at each place. -/
import Derived.Test.YtnneebdcaefgoaaCaK
import Derived.Maps.OwnSet
import Derived.DeepKeys4
namespace Go.Proofs.Ytnneebdcaefgoaa
open Go.RowKit Go.Maps

/-- A number that an int holds. -/
def I64 (x : Int) : Prop := -9223372036854775808 ≤ x ∧ x ≤ 9223372036854775807
theorem laidT : laidOutB Try.prog = true := by kernel_rfl
theorem rowK : (67 : TypeId) < Try.prog.types.size := of_decide_eq_true (by kernel_rfl)
theorem wideK : (match Try.prog.underlying 67 with | some (.array _ _) | some (.struct _) => true | _ => false) = true := by kernel_rfl
theorem lawK0 : WideMaps.KeyLaw Try.prog 67 := deep_law_laid laidT (m := 2) (by omega) rowK (by kernel_rfl) wideK
theorem lawK : Keyed Try.prog 67 := Keyed.of_law lawK0
abbrev kv (s q : Int) : Value := .agg #[.int .i64 s, .int .i64 q]
def keyL (s q : Int) : Lit := .string (keyBytes [.int .i64 s, .int .i64 q])
theorem hkeyL {s q : Int} (h1 : I64 s) (h2 : I64 q) : keyOf Try.prog 67 (kv s q) = some (keyL s q) := by
  have hty : Try.prog.keyType 67 = true := by kernel_rfl
  have hc : Try.prog.cellsOf 67 = 2 := by kernel_rfl
  have hci : Try.prog.cellsOf 3 = 1 := by kernel_rfl
  obtain ⟨m, hm⟩ : ∃ m, Try.prog.types.size = m + 1 := ⟨Try.prog.types.size - 1, by have : 0 < Try.prog.types.size := Nat.lt_of_le_of_lt (Nat.zero_le _) rowK; omega⟩
  have w1 : (Lit.int .i64 s).wf = true := WalkArith.wf_i64 h1
  have w2 : (Lit.int .i64 q).wf = true := WalkArith.wf_i64 h2
  unfold keyOf
  simp only [Try.underlying67]
  rw [if_pos (by simp [hty, Value.formed, Try.underlying67, hc]), hm]
  unfold Program.keyLits
  simp only [Try.underlying67, Value.cells]
  rw [if_pos (by rw [hc]; exact ⟨rfl, by simp⟩)]
  simp [hci, Program.keyLits, Try.underlying3, w1, w2, keyL]
end Go.Proofs.Ytnneebdcaefgoaa

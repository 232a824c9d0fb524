/-
  No cell of these rows narrows 'for every input' (looked for: loops, veiled, ifaces, maps, wideKeys, modest, calm, conditions, laid).
  DERIVED. THE GIVEN ROWS OF THIS SEAT. 5 by the template 'for every input the law returns true; each argument reads behind the call as it read before'; 0 by the template 'total and deterministic' (their statements: YtnneebdcaefgoaaTotals.lean).
  GIVEN WITH THE SEED: the statements are not yours to turn. If you find one false, say at which input.
  Laid BY PROGRAM, IN A SANDBOX (cutbox-rows.mjs): the forced cells as the released guide's own fill.sh prints them over the translation 42a6c515fbd33e77… (all of the seat's roots in one cut). By AI agents, Wed Nov 11 2026. No macro, syntax, notation, axiom, sorry.
-/
import Derived.Test.YtnneebdcaefgoaaChecked
import GoSem.Claim
import GoSem.ClaimJoined
import GoSem.ClaimMapViews
import Derived.JoinedTies
import Derived.KernelRfl
namespace Go.Proofs.Ytnneebdcaefgoaa
/- THE CELL 'sum', in the pinned program and in every row, IS THE sha256 OF THE DUMP (.gsa) THAT YtnneebdcaefgoaaProg.lean LOADS. Nothing in Lean hashes anything: it is a label: what it is worth is what the hold of that sum in a sandbox is worth. -/
noncomputable def Try.pinned : Pinned := { name := "ytnneebdcaefgoaa", sum := "42a6c515fbd33e7709837451795c00a6f453f7f1909344e718db8dac20474493", checked := Try.checked }
namespace Rows
def none {H : Type} : Left H := { results := [], args := [] }

/-- 'heliographlaw18.CausalAnew': WHATEVER THE INPUT: true; the input reads as it did. -/
def causalAnewSpec : ChangeSpec := { name := "causalAnew", fn := fun _ => fun
  | [d1, d2] => { results := [.lit (.bool true)], args := [d1, d2] }
  | _ => none }
def causalAnewRow : OpenClaim := { program := "ytnneebdcaefgoaa", sum := "42a6c515fbd33e7709837451795c00a6f453f7f1909344e718db8dac20474493", func := "heliograph/heliographlaw18.CausalAnew", spec := "causalAnew", unfollowed := true, recurses := true, plainKeys := false, apart := false }
def CausalAnewSaid : Prop := causalAnewRow.holds Try.pinned (OpenSpec.ofChange causalAnewSpec)

/-- ITS FALSE NEIGHBOUR: 'it returns false'. Refute it at one input. -/
def causalAnewWrong : ChangeSpec := { name := "causalAnew", fn := fun _ => fun
  | [d1, d2] => { results := [.lit (.bool false)], args := [d1, d2] }
  | _ => none }
def CausalAnewWrongFalsely : Prop := causalAnewRow.holds Try.pinned (OpenSpec.ofChange causalAnewWrong)

/-- 'heliographlaw18.CausalHolds': WHATEVER THE INPUT: true; the input reads as it did. -/
def causalHoldsSpec : ChangeSpec := { name := "causalHolds", fn := fun _ => fun
  | [d1, d2] => { results := [.lit (.bool true)], args := [d1, d2] }
  | _ => none }
def causalHoldsRow : OpenClaim := { program := "ytnneebdcaefgoaa", sum := "42a6c515fbd33e7709837451795c00a6f453f7f1909344e718db8dac20474493", func := "heliograph/heliographlaw18.CausalHolds", spec := "causalHolds", unfollowed := true, recurses := true, plainKeys := false, apart := false }
def CausalHoldsSaid : Prop := causalHoldsRow.holds Try.pinned (OpenSpec.ofChange causalHoldsSpec)

/-- ITS FALSE NEIGHBOUR: 'it returns false'. Refute it at one input. -/
def causalHoldsWrong : ChangeSpec := { name := "causalHolds", fn := fun _ => fun
  | [d1, d2] => { results := [.lit (.bool false)], args := [d1, d2] }
  | _ => none }
def CausalHoldsWrongFalsely : Prop := causalHoldsRow.holds Try.pinned (OpenSpec.ofChange causalHoldsWrong)

/-- 'heliographlaw18.CausalOrder': WHATEVER THE INPUT: true; the input reads as it did. -/
def causalOrderSpec : ChangeSpec := { name := "causalOrder", fn := fun _ => fun
  | [d1, d2] => { results := [.lit (.bool true)], args := [d1, d2] }
  | _ => none }
def causalOrderRow : OpenClaim := { program := "ytnneebdcaefgoaa", sum := "42a6c515fbd33e7709837451795c00a6f453f7f1909344e718db8dac20474493", func := "heliograph/heliographlaw18.CausalOrder", spec := "causalOrder", unfollowed := true, recurses := true, plainKeys := false, apart := false }
def CausalOrderSaid : Prop := causalOrderRow.holds Try.pinned (OpenSpec.ofChange causalOrderSpec)

/-- ITS FALSE NEIGHBOUR: 'it returns false'. Refute it at one input. -/
def causalOrderWrong : ChangeSpec := { name := "causalOrder", fn := fun _ => fun
  | [d1, d2] => { results := [.lit (.bool false)], args := [d1, d2] }
  | _ => none }
def CausalOrderWrongFalsely : Prop := causalOrderRow.holds Try.pinned (OpenSpec.ofChange causalOrderWrong)

/-- 'heliographlaw18.CausalPlays': WHATEVER THE INPUT: true; the input reads as it did. -/
def causalPlaysSpec : ChangeSpec := { name := "causalPlays", fn := fun _ => fun
  | [d1, d2, d3] => { results := [.lit (.bool true)], args := [d1, d2, d3] }
  | _ => none }
def causalPlaysRow : OpenClaim := { program := "ytnneebdcaefgoaa", sum := "42a6c515fbd33e7709837451795c00a6f453f7f1909344e718db8dac20474493", func := "heliograph/heliographlaw18.CausalPlays", spec := "causalPlays", unfollowed := true, recurses := true, plainKeys := false, apart := false }
def CausalPlaysSaid : Prop := causalPlaysRow.holds Try.pinned (OpenSpec.ofChange causalPlaysSpec)

/-- ITS FALSE NEIGHBOUR: 'it returns false'. Refute it at one input. -/
def causalPlaysWrong : ChangeSpec := { name := "causalPlays", fn := fun _ => fun
  | [d1, d2, d3] => { results := [.lit (.bool false)], args := [d1, d2, d3] }
  | _ => none }
def CausalPlaysWrongFalsely : Prop := causalPlaysRow.holds Try.pinned (OpenSpec.ofChange causalPlaysWrong)

/-- 'heliographlaw18.CausalNil': WHATEVER THE INPUT: true; the input reads as it did. -/
def causalNilSpec : ChangeSpec := { name := "causalNil", fn := fun _ => fun
  | [d] => { results := [.lit (.bool true)], args := [d] }
  | _ => none }
def causalNilRow : OpenClaim := { program := "ytnneebdcaefgoaa", sum := "42a6c515fbd33e7709837451795c00a6f453f7f1909344e718db8dac20474493", func := "heliograph/heliographlaw18.CausalNil", spec := "causalNil", unfollowed := true, recurses := true, plainKeys := false, apart := false }
def CausalNilSaid : Prop := causalNilRow.holds Try.pinned (OpenSpec.ofChange causalNilSpec)

/-- ITS FALSE NEIGHBOUR: 'it returns false'. Refute it at one input. -/
def causalNilWrong : ChangeSpec := { name := "causalNil", fn := fun _ => fun
  | [d] => { results := [.lit (.bool false)], args := [d] }
  | _ => none }
def CausalNilWrongFalsely : Prop := causalNilRow.holds Try.pinned (OpenSpec.ofChange causalNilWrong)

/- THE SECOND FORM. 'bulk': how many values and letters a reading holds, each counted each time it is reached (what is shared counts as often as it is met; a slice's spare places count too). A statement '..UptoSaid' is the law's where the arguments, and the package variables that the reading takes, are together of bulk at most 1048576: NARROWER than '..Said'. Prove '..Said' where nothing that the law and all that it calls make is longer than what came in: it says more and counts as full. Else prove '..UptoSaid'. A law counts once. -/
mutual
def uptoBulk {H : Type} : DataW H → Nat
  | .lit (.string bytes) => bytes.length + 1
  | .lit _ => 1
  | .nil => 1
  | .ptr d => uptoBulk d + 1
  | .slice elems spare => uptoBulkAll elems + uptoBulkAll spare + 1
  | .agg parts => uptoBulkAll parts + 1
  | .iface _ d => uptoBulk d + 1
  | .map entries => uptoBulkEntries entries + 1
  | .held _ => 1
def uptoBulkAll {H : Type} : List (DataW H) → Nat
  | [] => 0
  | d :: r => uptoBulk d + uptoBulkAll r
def uptoBulkEntries {H : Type} : List (Lit × DataW H) → Nat
  | [] => 0
  | x :: r => uptoBulkEntry x + uptoBulkEntries r
def uptoBulkEntry {H : Type} : Lit × DataW H → Nat
  | (.string bytes, d) => bytes.length + uptoBulk d + 1
  | (_, d) => uptoBulk d + 1
 end
def uptoSmall : (H : Type) → List (DataW H) → Bool := fun _ ds => decide (uptoBulkAll ds ≤ 1048576)
def OpenSpec.upto (s : _root_.Go.ChangeSpec) : _root_.Go.OpenSpec := { _root_.Go.OpenSpec.ofChange s with cond := some uptoSmall }

/-- 'heliographlaw18.CausalAnew', WHERE WHAT IT READS IS OF BULK AT MOST 1048576: true; the input reads as it did. -/
def causalAnewUptoRow : OpenClaim := { program := "ytnneebdcaefgoaa", sum := "42a6c515fbd33e7709837451795c00a6f453f7f1909344e718db8dac20474493", func := "heliograph/heliographlaw18.CausalAnew", spec := "causalAnew", unfollowed := true, recurses := true, plainKeys := false, apart := false, narrowed := true }
def CausalAnewUptoSaid : Prop := causalAnewUptoRow.holds Try.pinned (OpenSpec.upto causalAnewSpec)

/-- 'heliographlaw18.CausalHolds', WHERE WHAT IT READS IS OF BULK AT MOST 1048576: true; the input reads as it did. -/
def causalHoldsUptoRow : OpenClaim := { program := "ytnneebdcaefgoaa", sum := "42a6c515fbd33e7709837451795c00a6f453f7f1909344e718db8dac20474493", func := "heliograph/heliographlaw18.CausalHolds", spec := "causalHolds", unfollowed := true, recurses := true, plainKeys := false, apart := false, narrowed := true }
def CausalHoldsUptoSaid : Prop := causalHoldsUptoRow.holds Try.pinned (OpenSpec.upto causalHoldsSpec)

/-- 'heliographlaw18.CausalOrder', WHERE WHAT IT READS IS OF BULK AT MOST 1048576: true; the input reads as it did. -/
def causalOrderUptoRow : OpenClaim := { program := "ytnneebdcaefgoaa", sum := "42a6c515fbd33e7709837451795c00a6f453f7f1909344e718db8dac20474493", func := "heliograph/heliographlaw18.CausalOrder", spec := "causalOrder", unfollowed := true, recurses := true, plainKeys := false, apart := false, narrowed := true }
def CausalOrderUptoSaid : Prop := causalOrderUptoRow.holds Try.pinned (OpenSpec.upto causalOrderSpec)

/-- 'heliographlaw18.CausalPlays', WHERE WHAT IT READS IS OF BULK AT MOST 1048576: true; the input reads as it did. -/
def causalPlaysUptoRow : OpenClaim := { program := "ytnneebdcaefgoaa", sum := "42a6c515fbd33e7709837451795c00a6f453f7f1909344e718db8dac20474493", func := "heliograph/heliographlaw18.CausalPlays", spec := "causalPlays", unfollowed := true, recurses := true, plainKeys := false, apart := false, narrowed := true }
def CausalPlaysUptoSaid : Prop := causalPlaysUptoRow.holds Try.pinned (OpenSpec.upto causalPlaysSpec)

/-- 'heliographlaw18.CausalNil', WHERE WHAT IT READS IS OF BULK AT MOST 1048576: true; the input reads as it did. -/
def causalNilUptoRow : OpenClaim := { program := "ytnneebdcaefgoaa", sum := "42a6c515fbd33e7709837451795c00a6f453f7f1909344e718db8dac20474493", func := "heliograph/heliographlaw18.CausalNil", spec := "causalNil", unfollowed := true, recurses := true, plainKeys := false, apart := false, narrowed := true }
def CausalNilUptoSaid : Prop := causalNilUptoRow.holds Try.pinned (OpenSpec.upto causalNilSpec)

end Rows
end Go.Proofs.Ytnneebdcaefgoaa

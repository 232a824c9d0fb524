/-
  No cell of these rows narrows 'for every input' (looked for: loops, veiled, ifaces, maps, wideKeys, modest, calm, conditions, laid).
  DERIVED. THE GIVEN ROWS OF THIS SEAT. 7 by the template 'for every input the law returns true; each argument reads behind the call as it read before'; 0 by the template 'total and deterministic' (their statements: YtafdddakkenlaaaTotals.lean).
  GIVEN WITH THE SEED: the statements are not yours to turn. If you find one false, say at which input.
  Laid BY PROGRAM, IN A SANDBOX (cutbox-rows.mjs): the forced cells as the released guide's own fill.sh prints them over the translation 6f0ff1ece560f668… (all of the seat's roots in one cut). By AI agents, Wed Nov 11 2026. No macro, syntax, notation, axiom, sorry.
-/
import Derived.Test.YtafdddakkenlaaaChecked
import GoSem.Claim
import GoSem.ClaimJoined
import GoSem.ClaimMapViews
import Derived.JoinedTies
import Derived.KernelRfl
namespace Go.Proofs.Ytafdddakkenlaaa
/- THE CELL 'sum', in the pinned program and in every row, IS THE sha256 OF THE DUMP (.gsa) THAT YtafdddakkenlaaaProg.lean LOADS. Nothing in Lean hashes anything: it is a label: what it is worth is what the hold of that sum in a sandbox is worth. -/
noncomputable def Try.pinned : Pinned := { name := "ytafdddakkenlaaa", sum := "6f0ff1ece560f66875c7464ed621fb3747b954e6f8d8d49d326b4d4b65b5b234", checked := Try.checked }
namespace Rows
def none {H : Type} : Left H := { results := [], args := [] }

/-- 'heliographlaw07.WindowTimes': WHATEVER THE INPUT: true; the input reads as it did. -/
def windowTimesSpec : ChangeSpec := { name := "windowTimes", fn := fun _ => fun
  | [d1, d2] => { results := [.lit (.bool true)], args := [d1, d2] }
  | _ => none }
def windowTimesRow : OpenClaim := { program := "ytafdddakkenlaaa", sum := "6f0ff1ece560f66875c7464ed621fb3747b954e6f8d8d49d326b4d4b65b5b234", func := "heliograph/heliographlaw07.WindowTimes", spec := "windowTimes", unfollowed := true, recurses := true, apart := false }
def WindowTimesSaid : Prop := windowTimesRow.holds Try.pinned (OpenSpec.ofChange windowTimesSpec)

/-- ITS FALSE NEIGHBOUR: 'it returns false'. Refute it at one input. -/
def windowTimesWrong : ChangeSpec := { name := "windowTimes", fn := fun _ => fun
  | [d1, d2] => { results := [.lit (.bool false)], args := [d1, d2] }
  | _ => none }
def WindowTimesWrongFalsely : Prop := windowTimesRow.holds Try.pinned (OpenSpec.ofChange windowTimesWrong)

/-- 'heliographlaw07.WindowMeets': WHATEVER THE INPUT: true; the input reads as it did. -/
def windowMeetsSpec : ChangeSpec := { name := "windowMeets", fn := fun _ => fun
  | [d1, d2] => { results := [.lit (.bool true)], args := [d1, d2] }
  | _ => none }
def windowMeetsRow : OpenClaim := { program := "ytafdddakkenlaaa", sum := "6f0ff1ece560f66875c7464ed621fb3747b954e6f8d8d49d326b4d4b65b5b234", func := "heliograph/heliographlaw07.WindowMeets", spec := "windowMeets", unfollowed := true, recurses := true, apart := false }
def WindowMeetsSaid : Prop := windowMeetsRow.holds Try.pinned (OpenSpec.ofChange windowMeetsSpec)

/-- ITS FALSE NEIGHBOUR: 'it returns false'. Refute it at one input. -/
def windowMeetsWrong : ChangeSpec := { name := "windowMeets", fn := fun _ => fun
  | [d1, d2] => { results := [.lit (.bool false)], args := [d1, d2] }
  | _ => none }
def WindowMeetsWrongFalsely : Prop := windowMeetsRow.holds Try.pinned (OpenSpec.ofChange windowMeetsWrong)

/-- 'heliographlaw07.WindowSpans': WHATEVER THE INPUT: true; the input reads as it did. -/
def windowSpansSpec : ChangeSpec := { name := "windowSpans", fn := fun _ => fun
  | [d1, d2, d3] => { results := [.lit (.bool true)], args := [d1, d2, d3] }
  | _ => none }
def windowSpansRow : OpenClaim := { program := "ytafdddakkenlaaa", sum := "6f0ff1ece560f66875c7464ed621fb3747b954e6f8d8d49d326b4d4b65b5b234", func := "heliograph/heliographlaw07.WindowSpans", spec := "windowSpans", unfollowed := true, recurses := true, apart := false }
def WindowSpansSaid : Prop := windowSpansRow.holds Try.pinned (OpenSpec.ofChange windowSpansSpec)

/-- ITS FALSE NEIGHBOUR: 'it returns false'. Refute it at one input. -/
def windowSpansWrong : ChangeSpec := { name := "windowSpans", fn := fun _ => fun
  | [d1, d2, d3] => { results := [.lit (.bool false)], args := [d1, d2, d3] }
  | _ => none }
def WindowSpansWrongFalsely : Prop := windowSpansRow.holds Try.pinned (OpenSpec.ofChange windowSpansWrong)

/-- 'heliographlaw07.WindowParts': WHATEVER THE INPUT: true; the input reads as it did. -/
def windowPartsSpec : ChangeSpec := { name := "windowParts", fn := fun _ => fun
  | [d1, d2, d3] => { results := [.lit (.bool true)], args := [d1, d2, d3] }
  | _ => none }
def windowPartsRow : OpenClaim := { program := "ytafdddakkenlaaa", sum := "6f0ff1ece560f66875c7464ed621fb3747b954e6f8d8d49d326b4d4b65b5b234", func := "heliograph/heliographlaw07.WindowParts", spec := "windowParts", unfollowed := true, recurses := true, apart := false }
def WindowPartsSaid : Prop := windowPartsRow.holds Try.pinned (OpenSpec.ofChange windowPartsSpec)

/-- ITS FALSE NEIGHBOUR: 'it returns false'. Refute it at one input. -/
def windowPartsWrong : ChangeSpec := { name := "windowParts", fn := fun _ => fun
  | [d1, d2, d3] => { results := [.lit (.bool false)], args := [d1, d2, d3] }
  | _ => none }
def WindowPartsWrongFalsely : Prop := windowPartsRow.holds Try.pinned (OpenSpec.ofChange windowPartsWrong)

/-- 'heliographlaw07.WindowSets': WHATEVER THE INPUT: true; the input reads as it did. -/
def windowSetsSpec : ChangeSpec := { name := "windowSets", fn := fun _ => fun
  | [d1, d2] => { results := [.lit (.bool true)], args := [d1, d2] }
  | _ => none }
def windowSetsRow : OpenClaim := { program := "ytafdddakkenlaaa", sum := "6f0ff1ece560f66875c7464ed621fb3747b954e6f8d8d49d326b4d4b65b5b234", func := "heliograph/heliographlaw07.WindowSets", spec := "windowSets", unfollowed := true, recurses := true, apart := false }
def WindowSetsSaid : Prop := windowSetsRow.holds Try.pinned (OpenSpec.ofChange windowSetsSpec)

/-- ITS FALSE NEIGHBOUR: 'it returns false'. Refute it at one input. -/
def windowSetsWrong : ChangeSpec := { name := "windowSets", fn := fun _ => fun
  | [d1, d2] => { results := [.lit (.bool false)], args := [d1, d2] }
  | _ => none }
def WindowSetsWrongFalsely : Prop := windowSetsRow.holds Try.pinned (OpenSpec.ofChange windowSetsWrong)

/-- 'heliographlaw07.WindowNil': WHATEVER THE INPUT: true; the input reads as it did. -/
def windowNilSpec : ChangeSpec := { name := "windowNil", fn := fun _ => fun
  | [d] => { results := [.lit (.bool true)], args := [d] }
  | _ => none }
def windowNilRow : OpenClaim := { program := "ytafdddakkenlaaa", sum := "6f0ff1ece560f66875c7464ed621fb3747b954e6f8d8d49d326b4d4b65b5b234", func := "heliograph/heliographlaw07.WindowNil", spec := "windowNil", unfollowed := true, recurses := true, apart := false }
def WindowNilSaid : Prop := windowNilRow.holds Try.pinned (OpenSpec.ofChange windowNilSpec)

/-- ITS FALSE NEIGHBOUR: 'it returns false'. Refute it at one input. -/
def windowNilWrong : ChangeSpec := { name := "windowNil", fn := fun _ => fun
  | [d] => { results := [.lit (.bool false)], args := [d] }
  | _ => none }
def WindowNilWrongFalsely : Prop := windowNilRow.holds Try.pinned (OpenSpec.ofChange windowNilWrong)

/-- 'heliographlaw07.WindowTakes': WHATEVER THE INPUT: true; the input reads as it did. -/
def windowTakesSpec : ChangeSpec := { name := "windowTakes", fn := fun _ => fun
  | [d1, d2] => { results := [.lit (.bool true)], args := [d1, d2] }
  | _ => none }
def windowTakesRow : OpenClaim := { program := "ytafdddakkenlaaa", sum := "6f0ff1ece560f66875c7464ed621fb3747b954e6f8d8d49d326b4d4b65b5b234", func := "heliograph/heliographlaw07.WindowTakes", spec := "windowTakes", unfollowed := true, recurses := true, apart := false }
def WindowTakesSaid : Prop := windowTakesRow.holds Try.pinned (OpenSpec.ofChange windowTakesSpec)

/-- ITS FALSE NEIGHBOUR: 'it returns false'. Refute it at one input. -/
def windowTakesWrong : ChangeSpec := { name := "windowTakes", fn := fun _ => fun
  | [d1, d2] => { results := [.lit (.bool false)], args := [d1, d2] }
  | _ => none }
def WindowTakesWrongFalsely : Prop := windowTakesRow.holds Try.pinned (OpenSpec.ofChange windowTakesWrong)

/- THE SECOND FORM. 'bulk': how many values and letters a reading holds, each counted each time it is reached (what is shared counts as often as it is met; a slice's spare places count too). A statement '..UptoSaid' is the law's where the arguments, and the package variables that the reading takes, are together of bulk at most 1048576: NARROWER than '..Said'. Prove '..Said' where nothing that the law and all that it calls make is longer than what came in: it says more and counts as full. Else prove '..UptoSaid'. A law counts once. -/
mutual
def uptoBulk {H : Type} : DataW H → Nat
  | .lit (.string bytes) => bytes.length + 1
  | .lit _ => 1
  | .nil => 1
  | .ptr d => uptoBulk d + 1
  | .slice elems spare => uptoBulkAll elems + uptoBulkAll spare + 1
  | .agg parts => uptoBulkAll parts + 1
  | .iface _ d => uptoBulk d + 1
  | .map entries => uptoBulkEntries entries + 1
  | .held _ => 1
def uptoBulkAll {H : Type} : List (DataW H) → Nat
  | [] => 0
  | d :: r => uptoBulk d + uptoBulkAll r
def uptoBulkEntries {H : Type} : List (Lit × DataW H) → Nat
  | [] => 0
  | x :: r => uptoBulkEntry x + uptoBulkEntries r
def uptoBulkEntry {H : Type} : Lit × DataW H → Nat
  | (.string bytes, d) => bytes.length + uptoBulk d + 1
  | (_, d) => uptoBulk d + 1
 end
def uptoSmall : (H : Type) → List (DataW H) → Bool := fun _ ds => decide (uptoBulkAll ds ≤ 1048576)
def OpenSpec.upto (s : _root_.Go.ChangeSpec) : _root_.Go.OpenSpec := { _root_.Go.OpenSpec.ofChange s with cond := some uptoSmall }

/-- 'heliographlaw07.WindowTimes', WHERE WHAT IT READS IS OF BULK AT MOST 1048576: true; the input reads as it did. -/
def windowTimesUptoRow : OpenClaim := { program := "ytafdddakkenlaaa", sum := "6f0ff1ece560f66875c7464ed621fb3747b954e6f8d8d49d326b4d4b65b5b234", func := "heliograph/heliographlaw07.WindowTimes", spec := "windowTimes", unfollowed := true, recurses := true, apart := false, narrowed := true }
def WindowTimesUptoSaid : Prop := windowTimesUptoRow.holds Try.pinned (OpenSpec.upto windowTimesSpec)

/-- 'heliographlaw07.WindowMeets', WHERE WHAT IT READS IS OF BULK AT MOST 1048576: true; the input reads as it did. -/
def windowMeetsUptoRow : OpenClaim := { program := "ytafdddakkenlaaa", sum := "6f0ff1ece560f66875c7464ed621fb3747b954e6f8d8d49d326b4d4b65b5b234", func := "heliograph/heliographlaw07.WindowMeets", spec := "windowMeets", unfollowed := true, recurses := true, apart := false, narrowed := true }
def WindowMeetsUptoSaid : Prop := windowMeetsUptoRow.holds Try.pinned (OpenSpec.upto windowMeetsSpec)

/-- 'heliographlaw07.WindowSpans', WHERE WHAT IT READS IS OF BULK AT MOST 1048576: true; the input reads as it did. -/
def windowSpansUptoRow : OpenClaim := { program := "ytafdddakkenlaaa", sum := "6f0ff1ece560f66875c7464ed621fb3747b954e6f8d8d49d326b4d4b65b5b234", func := "heliograph/heliographlaw07.WindowSpans", spec := "windowSpans", unfollowed := true, recurses := true, apart := false, narrowed := true }
def WindowSpansUptoSaid : Prop := windowSpansUptoRow.holds Try.pinned (OpenSpec.upto windowSpansSpec)

/-- 'heliographlaw07.WindowParts', WHERE WHAT IT READS IS OF BULK AT MOST 1048576: true; the input reads as it did. -/
def windowPartsUptoRow : OpenClaim := { program := "ytafdddakkenlaaa", sum := "6f0ff1ece560f66875c7464ed621fb3747b954e6f8d8d49d326b4d4b65b5b234", func := "heliograph/heliographlaw07.WindowParts", spec := "windowParts", unfollowed := true, recurses := true, apart := false, narrowed := true }
def WindowPartsUptoSaid : Prop := windowPartsUptoRow.holds Try.pinned (OpenSpec.upto windowPartsSpec)

/-- 'heliographlaw07.WindowSets', WHERE WHAT IT READS IS OF BULK AT MOST 1048576: true; the input reads as it did. -/
def windowSetsUptoRow : OpenClaim := { program := "ytafdddakkenlaaa", sum := "6f0ff1ece560f66875c7464ed621fb3747b954e6f8d8d49d326b4d4b65b5b234", func := "heliograph/heliographlaw07.WindowSets", spec := "windowSets", unfollowed := true, recurses := true, apart := false, narrowed := true }
def WindowSetsUptoSaid : Prop := windowSetsUptoRow.holds Try.pinned (OpenSpec.upto windowSetsSpec)

/-- 'heliographlaw07.WindowNil', WHERE WHAT IT READS IS OF BULK AT MOST 1048576: true; the input reads as it did. -/
def windowNilUptoRow : OpenClaim := { program := "ytafdddakkenlaaa", sum := "6f0ff1ece560f66875c7464ed621fb3747b954e6f8d8d49d326b4d4b65b5b234", func := "heliograph/heliographlaw07.WindowNil", spec := "windowNil", unfollowed := true, recurses := true, apart := false, narrowed := true }
def WindowNilUptoSaid : Prop := windowNilUptoRow.holds Try.pinned (OpenSpec.upto windowNilSpec)

/-- 'heliographlaw07.WindowTakes', WHERE WHAT IT READS IS OF BULK AT MOST 1048576: true; the input reads as it did. -/
def windowTakesUptoRow : OpenClaim := { program := "ytafdddakkenlaaa", sum := "6f0ff1ece560f66875c7464ed621fb3747b954e6f8d8d49d326b4d4b65b5b234", func := "heliograph/heliographlaw07.WindowTakes", spec := "windowTakes", unfollowed := true, recurses := true, apart := false, narrowed := true }
def WindowTakesUptoSaid : Prop := windowTakesUptoRow.holds Try.pinned (OpenSpec.upto windowTakesSpec)

end Rows
end Go.Proofs.Ytafdddakkenlaaa

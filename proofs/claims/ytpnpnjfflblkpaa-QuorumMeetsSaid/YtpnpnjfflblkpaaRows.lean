/-
  No cell of these rows narrows 'for every input' (looked for: loops, veiled, ifaces, maps, wideKeys, modest, calm, conditions, laid).
  DERIVED. THE GIVEN ROWS OF THIS SEAT. 5 by the template 'for every input the law returns true; each argument reads behind the call as it read before'; 0 by the template 'total and deterministic' (their statements: YtpnpnjfflblkpaaTotals.lean).
  GIVEN WITH THE SEED: the statements are not yours to turn. If you find one false, say at which input.
  Laid BY PROGRAM, IN A SANDBOX (cutbox-rows.mjs): the forced cells as the released guide's own fill.sh prints them over the translation 57123c0adce61c79… (all of the seat's roots in one cut). By AI agents, Wed Nov 11 2026. No macro, syntax, notation, axiom, sorry.
-/
import Derived.Test.YtpnpnjfflblkpaaChecked
import GoSem.Claim
import GoSem.ClaimJoined
import GoSem.ClaimMapViews
import Derived.JoinedTies
import Derived.KernelRfl
namespace Go.Proofs.Ytpnpnjfflblkpaa
/- THE CELL 'sum', in the pinned program and in every row, IS THE sha256 OF THE DUMP (.gsa) THAT YtpnpnjfflblkpaaProg.lean LOADS. Nothing in Lean hashes anything: it is a label: what it is worth is what the hold of that sum in a sandbox is worth. -/
noncomputable def Try.pinned : Pinned := { name := "ytpnpnjfflblkpaa", sum := "57123c0adce61c79a64c238aa31adac953111b03229514756dc0aba32e19e889", checked := Try.checked }
namespace Rows
def none {H : Type} : Left H := { results := [], args := [] }

/-- 'heliographlaw15.QuorumMeets': WHATEVER THE INPUT: true; the input reads as it did. -/
def quorumMeetsSpec : ChangeSpec := { name := "quorumMeets", fn := fun _ => fun
  | [d1, d2, d3] => { results := [.lit (.bool true)], args := [d1, d2, d3] }
  | _ => none }
def quorumMeetsRow : OpenClaim := { program := "ytpnpnjfflblkpaa", sum := "57123c0adce61c79a64c238aa31adac953111b03229514756dc0aba32e19e889", func := "heliograph/heliographlaw15.QuorumMeets", spec := "quorumMeets", unfollowed := true, recurses := true, apart := false }
def QuorumMeetsSaid : Prop := quorumMeetsRow.holds Try.pinned (OpenSpec.ofChange quorumMeetsSpec)

/-- ITS FALSE NEIGHBOUR: 'it returns false'. Refute it at one input. -/
def quorumMeetsWrong : ChangeSpec := { name := "quorumMeets", fn := fun _ => fun
  | [d1, d2, d3] => { results := [.lit (.bool false)], args := [d1, d2, d3] }
  | _ => none }
def QuorumMeetsWrongFalsely : Prop := quorumMeetsRow.holds Try.pinned (OpenSpec.ofChange quorumMeetsWrong)

/-- 'heliographlaw15.QuorumOrder': WHATEVER THE INPUT: true; the input reads as it did. -/
def quorumOrderSpec : ChangeSpec := { name := "quorumOrder", fn := fun _ => fun
  | [d] => { results := [.lit (.bool true)], args := [d] }
  | _ => none }
def quorumOrderRow : OpenClaim := { program := "ytpnpnjfflblkpaa", sum := "57123c0adce61c79a64c238aa31adac953111b03229514756dc0aba32e19e889", func := "heliograph/heliographlaw15.QuorumOrder", spec := "quorumOrder", unfollowed := true, recurses := true, apart := false }
def QuorumOrderSaid : Prop := quorumOrderRow.holds Try.pinned (OpenSpec.ofChange quorumOrderSpec)

/-- ITS FALSE NEIGHBOUR: 'it returns false'. Refute it at one input. -/
def quorumOrderWrong : ChangeSpec := { name := "quorumOrder", fn := fun _ => fun
  | [d] => { results := [.lit (.bool false)], args := [d] }
  | _ => none }
def QuorumOrderWrongFalsely : Prop := quorumOrderRow.holds Try.pinned (OpenSpec.ofChange quorumOrderWrong)

/-- 'heliographlaw15.QuorumWrites': WHATEVER THE INPUT: true; the input reads as it did. -/
def quorumWritesSpec : ChangeSpec := { name := "quorumWrites", fn := fun _ => fun
  | [d1, d2, d3] => { results := [.lit (.bool true)], args := [d1, d2, d3] }
  | _ => none }
def quorumWritesRow : OpenClaim := { program := "ytpnpnjfflblkpaa", sum := "57123c0adce61c79a64c238aa31adac953111b03229514756dc0aba32e19e889", func := "heliograph/heliographlaw15.QuorumWrites", spec := "quorumWrites", unfollowed := true, recurses := true, apart := false }
def QuorumWritesSaid : Prop := quorumWritesRow.holds Try.pinned (OpenSpec.ofChange quorumWritesSpec)

/-- ITS FALSE NEIGHBOUR: 'it returns false'. Refute it at one input. -/
def quorumWritesWrong : ChangeSpec := { name := "quorumWrites", fn := fun _ => fun
  | [d1, d2, d3] => { results := [.lit (.bool false)], args := [d1, d2, d3] }
  | _ => none }
def QuorumWritesWrongFalsely : Prop := quorumWritesRow.holds Try.pinned (OpenSpec.ofChange quorumWritesWrong)

/-- 'heliographlaw15.QuorumReads': WHATEVER THE INPUT: true; the input reads as it did. -/
def quorumReadsSpec : ChangeSpec := { name := "quorumReads", fn := fun _ => fun
  | [d1, d2, d3] => { results := [.lit (.bool true)], args := [d1, d2, d3] }
  | _ => none }
def quorumReadsRow : OpenClaim := { program := "ytpnpnjfflblkpaa", sum := "57123c0adce61c79a64c238aa31adac953111b03229514756dc0aba32e19e889", func := "heliograph/heliographlaw15.QuorumReads", spec := "quorumReads", unfollowed := true, recurses := true, apart := false }
def QuorumReadsSaid : Prop := quorumReadsRow.holds Try.pinned (OpenSpec.ofChange quorumReadsSpec)

/-- ITS FALSE NEIGHBOUR: 'it returns false'. Refute it at one input. -/
def quorumReadsWrong : ChangeSpec := { name := "quorumReads", fn := fun _ => fun
  | [d1, d2, d3] => { results := [.lit (.bool false)], args := [d1, d2, d3] }
  | _ => none }
def QuorumReadsWrongFalsely : Prop := quorumReadsRow.holds Try.pinned (OpenSpec.ofChange quorumReadsWrong)

/-- 'heliographlaw15.QuorumNil': WHATEVER THE INPUT: true; the input reads as it did. -/
def quorumNilSpec : ChangeSpec := { name := "quorumNil", fn := fun _ => fun
  | [d] => { results := [.lit (.bool true)], args := [d] }
  | _ => none }
def quorumNilRow : OpenClaim := { program := "ytpnpnjfflblkpaa", sum := "57123c0adce61c79a64c238aa31adac953111b03229514756dc0aba32e19e889", func := "heliograph/heliographlaw15.QuorumNil", spec := "quorumNil", unfollowed := true, recurses := true, apart := false }
def QuorumNilSaid : Prop := quorumNilRow.holds Try.pinned (OpenSpec.ofChange quorumNilSpec)

/-- ITS FALSE NEIGHBOUR: 'it returns false'. Refute it at one input. -/
def quorumNilWrong : ChangeSpec := { name := "quorumNil", fn := fun _ => fun
  | [d] => { results := [.lit (.bool false)], args := [d] }
  | _ => none }
def QuorumNilWrongFalsely : Prop := quorumNilRow.holds Try.pinned (OpenSpec.ofChange quorumNilWrong)

/- THE SECOND FORM. 'bulk': how many values and letters a reading holds, each counted each time it is reached (what is shared counts as often as it is met; a slice's spare places count too). A statement '..UptoSaid' is the law's where the arguments, and the package variables that the reading takes, are together of bulk at most 1048576: NARROWER than '..Said'. Prove '..Said' where nothing that the law and all that it calls make is longer than what came in: it says more and counts as full. Else prove '..UptoSaid'. A law counts once. -/
mutual
def uptoBulk {H : Type} : DataW H → Nat
  | .lit (.string bytes) => bytes.length + 1
  | .lit _ => 1
  | .nil => 1
  | .ptr d => uptoBulk d + 1
  | .slice elems spare => uptoBulkAll elems + uptoBulkAll spare + 1
  | .agg parts => uptoBulkAll parts + 1
  | .iface _ d => uptoBulk d + 1
  | .map entries => uptoBulkEntries entries + 1
  | .held _ => 1
def uptoBulkAll {H : Type} : List (DataW H) → Nat
  | [] => 0
  | d :: r => uptoBulk d + uptoBulkAll r
def uptoBulkEntries {H : Type} : List (Lit × DataW H) → Nat
  | [] => 0
  | x :: r => uptoBulkEntry x + uptoBulkEntries r
def uptoBulkEntry {H : Type} : Lit × DataW H → Nat
  | (.string bytes, d) => bytes.length + uptoBulk d + 1
  | (_, d) => uptoBulk d + 1
 end
def uptoSmall : (H : Type) → List (DataW H) → Bool := fun _ ds => decide (uptoBulkAll ds ≤ 1048576)
def OpenSpec.upto (s : _root_.Go.ChangeSpec) : _root_.Go.OpenSpec := { _root_.Go.OpenSpec.ofChange s with cond := some uptoSmall }

/-- 'heliographlaw15.QuorumMeets', WHERE WHAT IT READS IS OF BULK AT MOST 1048576: true; the input reads as it did. -/
def quorumMeetsUptoRow : OpenClaim := { program := "ytpnpnjfflblkpaa", sum := "57123c0adce61c79a64c238aa31adac953111b03229514756dc0aba32e19e889", func := "heliograph/heliographlaw15.QuorumMeets", spec := "quorumMeets", unfollowed := true, recurses := true, apart := false, narrowed := true }
def QuorumMeetsUptoSaid : Prop := quorumMeetsUptoRow.holds Try.pinned (OpenSpec.upto quorumMeetsSpec)

/-- 'heliographlaw15.QuorumOrder', WHERE WHAT IT READS IS OF BULK AT MOST 1048576: true; the input reads as it did. -/
def quorumOrderUptoRow : OpenClaim := { program := "ytpnpnjfflblkpaa", sum := "57123c0adce61c79a64c238aa31adac953111b03229514756dc0aba32e19e889", func := "heliograph/heliographlaw15.QuorumOrder", spec := "quorumOrder", unfollowed := true, recurses := true, apart := false, narrowed := true }
def QuorumOrderUptoSaid : Prop := quorumOrderUptoRow.holds Try.pinned (OpenSpec.upto quorumOrderSpec)

/-- 'heliographlaw15.QuorumWrites', WHERE WHAT IT READS IS OF BULK AT MOST 1048576: true; the input reads as it did. -/
def quorumWritesUptoRow : OpenClaim := { program := "ytpnpnjfflblkpaa", sum := "57123c0adce61c79a64c238aa31adac953111b03229514756dc0aba32e19e889", func := "heliograph/heliographlaw15.QuorumWrites", spec := "quorumWrites", unfollowed := true, recurses := true, apart := false, narrowed := true }
def QuorumWritesUptoSaid : Prop := quorumWritesUptoRow.holds Try.pinned (OpenSpec.upto quorumWritesSpec)

/-- 'heliographlaw15.QuorumReads', WHERE WHAT IT READS IS OF BULK AT MOST 1048576: true; the input reads as it did. -/
def quorumReadsUptoRow : OpenClaim := { program := "ytpnpnjfflblkpaa", sum := "57123c0adce61c79a64c238aa31adac953111b03229514756dc0aba32e19e889", func := "heliograph/heliographlaw15.QuorumReads", spec := "quorumReads", unfollowed := true, recurses := true, apart := false, narrowed := true }
def QuorumReadsUptoSaid : Prop := quorumReadsUptoRow.holds Try.pinned (OpenSpec.upto quorumReadsSpec)

/-- 'heliographlaw15.QuorumNil', WHERE WHAT IT READS IS OF BULK AT MOST 1048576: true; the input reads as it did. -/
def quorumNilUptoRow : OpenClaim := { program := "ytpnpnjfflblkpaa", sum := "57123c0adce61c79a64c238aa31adac953111b03229514756dc0aba32e19e889", func := "heliograph/heliographlaw15.QuorumNil", spec := "quorumNil", unfollowed := true, recurses := true, apart := false, narrowed := true }
def QuorumNilUptoSaid : Prop := quorumNilUptoRow.holds Try.pinned (OpenSpec.upto quorumNilSpec)

end Rows
end Go.Proofs.Ytpnpnjfflblkpaa

/-
  No cell of these rows narrows 'for every input' (looked for: loops, veiled, ifaces, maps, wideKeys, modest, calm, conditions, laid).
  DERIVED. THE GIVEN ROWS OF THIS SEAT. 7 by the template 'for every input the law returns true; each argument reads behind the call as it read before'; 0 by the template 'total and deterministic' (their statements: YtdopmcepfacdlaaTotals.lean).
  GIVEN WITH THE SEED: the statements are not yours to turn. If you find one false, say at which input.
  Laid BY PROGRAM, IN A SANDBOX (cutbox-rows.mjs): the forced cells as the released guide's own fill.sh prints them over the translation cb789aa42cbacdc1… (all of the seat's roots in one cut). By AI agents, Wed Nov 11 2026. No macro, syntax, notation, axiom, sorry.
-/
import Derived.Test.YtdopmcepfacdlaaChecked
import GoSem.Claim
import GoSem.ClaimJoined
import GoSem.ClaimMapViews
import Derived.JoinedTies
import Derived.KernelRfl
namespace Go.Proofs.Ytdopmcepfacdlaa
/- THE CELL 'sum', in the pinned program and in every row, IS THE sha256 OF THE DUMP (.gsa) THAT YtdopmcepfacdlaaProg.lean LOADS. Nothing in Lean hashes anything: it is a label: what it is worth is what the hold of that sum in a sandbox is worth. -/
noncomputable def Try.pinned : Pinned := { name := "ytdopmcepfacdlaa", sum := "cb789aa42cbacdc1f14540d8541c134093570b9de61699e023ec7e0740fb1376", checked := Try.checked }
namespace Rows
def none {H : Type} : Left H := { results := [], args := [] }

/-- 'heliographlaw10.FilesLasts': WHATEVER THE INPUT: true; the input reads as it did. -/
def filesLastsSpec : ChangeSpec := { name := "filesLasts", fn := fun _ => fun
  | [d1, d2, d3] => { results := [.lit (.bool true)], args := [d1, d2, d3] }
  | _ => none }
def filesLastsRow : OpenClaim := { program := "ytdopmcepfacdlaa", sum := "cb789aa42cbacdc1f14540d8541c134093570b9de61699e023ec7e0740fb1376", func := "heliograph/heliographlaw10.FilesLasts", spec := "filesLasts", inPlace := ["maps.clone"], unfollowed := true, recurses := true, apart := false }
def FilesLastsSaid : Prop := filesLastsRow.holds Try.pinned (OpenSpec.ofChange filesLastsSpec)

/-- ITS FALSE NEIGHBOUR: 'it returns false'. Refute it at one input. -/
def filesLastsWrong : ChangeSpec := { name := "filesLasts", fn := fun _ => fun
  | [d1, d2, d3] => { results := [.lit (.bool false)], args := [d1, d2, d3] }
  | _ => none }
def FilesLastsWrongFalsely : Prop := filesLastsRow.holds Try.pinned (OpenSpec.ofChange filesLastsWrong)

/-- 'heliographlaw10.FilesFull': WHATEVER THE INPUT: true; the input reads as it did. -/
def filesFullSpec : ChangeSpec := { name := "filesFull", fn := fun _ => fun
  | [d1, d2, d3] => { results := [.lit (.bool true)], args := [d1, d2, d3] }
  | _ => none }
def filesFullRow : OpenClaim := { program := "ytdopmcepfacdlaa", sum := "cb789aa42cbacdc1f14540d8541c134093570b9de61699e023ec7e0740fb1376", func := "heliograph/heliographlaw10.FilesFull", spec := "filesFull", inPlace := ["maps.clone"], unfollowed := true, recurses := true, apart := false }
def FilesFullSaid : Prop := filesFullRow.holds Try.pinned (OpenSpec.ofChange filesFullSpec)

/-- ITS FALSE NEIGHBOUR: 'it returns false'. Refute it at one input. -/
def filesFullWrong : ChangeSpec := { name := "filesFull", fn := fun _ => fun
  | [d1, d2, d3] => { results := [.lit (.bool false)], args := [d1, d2, d3] }
  | _ => none }
def FilesFullWrongFalsely : Prop := filesFullRow.holds Try.pinned (OpenSpec.ofChange filesFullWrong)

/-- 'heliographlaw10.FilesArms': WHATEVER THE INPUT: true; the input reads as it did. -/
def filesArmsSpec : ChangeSpec := { name := "filesArms", fn := fun _ => fun
  | [d] => { results := [.lit (.bool true)], args := [d] }
  | _ => none }
def filesArmsRow : OpenClaim := { program := "ytdopmcepfacdlaa", sum := "cb789aa42cbacdc1f14540d8541c134093570b9de61699e023ec7e0740fb1376", func := "heliograph/heliographlaw10.FilesArms", spec := "filesArms", inPlace := ["maps.clone"], unfollowed := true, recurses := true, apart := false }
def FilesArmsSaid : Prop := filesArmsRow.holds Try.pinned (OpenSpec.ofChange filesArmsSpec)

/-- ITS FALSE NEIGHBOUR: 'it returns false'. Refute it at one input. -/
def filesArmsWrong : ChangeSpec := { name := "filesArms", fn := fun _ => fun
  | [d] => { results := [.lit (.bool false)], args := [d] }
  | _ => none }
def FilesArmsWrongFalsely : Prop := filesArmsRow.holds Try.pinned (OpenSpec.ofChange filesArmsWrong)

/-- 'heliographlaw10.FilesSwaps': WHATEVER THE INPUT: true; the input reads as it did. -/
def filesSwapsSpec : ChangeSpec := { name := "filesSwaps", fn := fun _ => fun
  | [d1, d2, d3] => { results := [.lit (.bool true)], args := [d1, d2, d3] }
  | _ => none }
def filesSwapsRow : OpenClaim := { program := "ytdopmcepfacdlaa", sum := "cb789aa42cbacdc1f14540d8541c134093570b9de61699e023ec7e0740fb1376", func := "heliograph/heliographlaw10.FilesSwaps", spec := "filesSwaps", inPlace := ["maps.clone"], unfollowed := true, recurses := true, apart := false }
def FilesSwapsSaid : Prop := filesSwapsRow.holds Try.pinned (OpenSpec.ofChange filesSwapsSpec)

/-- ITS FALSE NEIGHBOUR: 'it returns false'. Refute it at one input. -/
def filesSwapsWrong : ChangeSpec := { name := "filesSwaps", fn := fun _ => fun
  | [d1, d2, d3] => { results := [.lit (.bool false)], args := [d1, d2, d3] }
  | _ => none }
def FilesSwapsWrongFalsely : Prop := filesSwapsRow.holds Try.pinned (OpenSpec.ofChange filesSwapsWrong)

/-- 'heliographlaw10.FilesReads': WHATEVER THE INPUT: true; the input reads as it did. -/
def filesReadsSpec : ChangeSpec := { name := "filesReads", fn := fun _ => fun
  | [d] => { results := [.lit (.bool true)], args := [d] }
  | _ => none }
def filesReadsRow : OpenClaim := { program := "ytdopmcepfacdlaa", sum := "cb789aa42cbacdc1f14540d8541c134093570b9de61699e023ec7e0740fb1376", func := "heliograph/heliographlaw10.FilesReads", spec := "filesReads", inPlace := ["maps.clone"], unfollowed := true, recurses := true, apart := false }
def FilesReadsSaid : Prop := filesReadsRow.holds Try.pinned (OpenSpec.ofChange filesReadsSpec)

/-- ITS FALSE NEIGHBOUR: 'it returns false'. Refute it at one input. -/
def filesReadsWrong : ChangeSpec := { name := "filesReads", fn := fun _ => fun
  | [d] => { results := [.lit (.bool false)], args := [d] }
  | _ => none }
def FilesReadsWrongFalsely : Prop := filesReadsRow.holds Try.pinned (OpenSpec.ofChange filesReadsWrong)

/-- 'heliographlaw10.FilesPlays': WHATEVER THE INPUT: true; the input reads as it did. -/
def filesPlaysSpec : ChangeSpec := { name := "filesPlays", fn := fun _ => fun
  | [d1, d2] => { results := [.lit (.bool true)], args := [d1, d2] }
  | _ => none }
def filesPlaysRow : OpenClaim := { program := "ytdopmcepfacdlaa", sum := "cb789aa42cbacdc1f14540d8541c134093570b9de61699e023ec7e0740fb1376", func := "heliograph/heliographlaw10.FilesPlays", spec := "filesPlays", inPlace := ["maps.clone"], unfollowed := true, recurses := true, apart := false }
def FilesPlaysSaid : Prop := filesPlaysRow.holds Try.pinned (OpenSpec.ofChange filesPlaysSpec)

/-- ITS FALSE NEIGHBOUR: 'it returns false'. Refute it at one input. -/
def filesPlaysWrong : ChangeSpec := { name := "filesPlays", fn := fun _ => fun
  | [d1, d2] => { results := [.lit (.bool false)], args := [d1, d2] }
  | _ => none }
def FilesPlaysWrongFalsely : Prop := filesPlaysRow.holds Try.pinned (OpenSpec.ofChange filesPlaysWrong)

/-- 'heliographlaw10.FilesNil': WHATEVER THE INPUT: true; the input reads as it did. -/
def filesNilSpec : ChangeSpec := { name := "filesNil", fn := fun _ => fun
  | [d] => { results := [.lit (.bool true)], args := [d] }
  | _ => none }
def filesNilRow : OpenClaim := { program := "ytdopmcepfacdlaa", sum := "cb789aa42cbacdc1f14540d8541c134093570b9de61699e023ec7e0740fb1376", func := "heliograph/heliographlaw10.FilesNil", spec := "filesNil", inPlace := ["maps.clone"], unfollowed := true, recurses := true, apart := false }
def FilesNilSaid : Prop := filesNilRow.holds Try.pinned (OpenSpec.ofChange filesNilSpec)

/-- ITS FALSE NEIGHBOUR: 'it returns false'. Refute it at one input. -/
def filesNilWrong : ChangeSpec := { name := "filesNil", fn := fun _ => fun
  | [d] => { results := [.lit (.bool false)], args := [d] }
  | _ => none }
def FilesNilWrongFalsely : Prop := filesNilRow.holds Try.pinned (OpenSpec.ofChange filesNilWrong)

/- THE SECOND FORM. 'bulk': how many values and letters a reading holds, each counted each time it is reached (what is shared counts as often as it is met; a slice's spare places count too). A statement '..UptoSaid' is the law's where the arguments, and the package variables that the reading takes, are together of bulk at most 1048576: NARROWER than '..Said'. Prove '..Said' where nothing that the law and all that it calls make is longer than what came in: it says more and counts as full. Else prove '..UptoSaid'. A law counts once. -/
mutual
def uptoBulk {H : Type} : DataW H → Nat
  | .lit (.string bytes) => bytes.length + 1
  | .lit _ => 1
  | .nil => 1
  | .ptr d => uptoBulk d + 1
  | .slice elems spare => uptoBulkAll elems + uptoBulkAll spare + 1
  | .agg parts => uptoBulkAll parts + 1
  | .iface _ d => uptoBulk d + 1
  | .map entries => uptoBulkEntries entries + 1
  | .held _ => 1
def uptoBulkAll {H : Type} : List (DataW H) → Nat
  | [] => 0
  | d :: r => uptoBulk d + uptoBulkAll r
def uptoBulkEntries {H : Type} : List (Lit × DataW H) → Nat
  | [] => 0
  | x :: r => uptoBulkEntry x + uptoBulkEntries r
def uptoBulkEntry {H : Type} : Lit × DataW H → Nat
  | (.string bytes, d) => bytes.length + uptoBulk d + 1
  | (_, d) => uptoBulk d + 1
 end
def uptoSmall : (H : Type) → List (DataW H) → Bool := fun _ ds => decide (uptoBulkAll ds ≤ 1048576)
def OpenSpec.upto (s : _root_.Go.ChangeSpec) : _root_.Go.OpenSpec := { _root_.Go.OpenSpec.ofChange s with cond := some uptoSmall }

/-- 'heliographlaw10.FilesLasts', WHERE WHAT IT READS IS OF BULK AT MOST 1048576: true; the input reads as it did. -/
def filesLastsUptoRow : OpenClaim := { program := "ytdopmcepfacdlaa", sum := "cb789aa42cbacdc1f14540d8541c134093570b9de61699e023ec7e0740fb1376", func := "heliograph/heliographlaw10.FilesLasts", spec := "filesLasts", inPlace := ["maps.clone"], unfollowed := true, recurses := true, apart := false, narrowed := true }
def FilesLastsUptoSaid : Prop := filesLastsUptoRow.holds Try.pinned (OpenSpec.upto filesLastsSpec)

/-- 'heliographlaw10.FilesFull', WHERE WHAT IT READS IS OF BULK AT MOST 1048576: true; the input reads as it did. -/
def filesFullUptoRow : OpenClaim := { program := "ytdopmcepfacdlaa", sum := "cb789aa42cbacdc1f14540d8541c134093570b9de61699e023ec7e0740fb1376", func := "heliograph/heliographlaw10.FilesFull", spec := "filesFull", inPlace := ["maps.clone"], unfollowed := true, recurses := true, apart := false, narrowed := true }
def FilesFullUptoSaid : Prop := filesFullUptoRow.holds Try.pinned (OpenSpec.upto filesFullSpec)

/-- 'heliographlaw10.FilesArms', WHERE WHAT IT READS IS OF BULK AT MOST 1048576: true; the input reads as it did. -/
def filesArmsUptoRow : OpenClaim := { program := "ytdopmcepfacdlaa", sum := "cb789aa42cbacdc1f14540d8541c134093570b9de61699e023ec7e0740fb1376", func := "heliograph/heliographlaw10.FilesArms", spec := "filesArms", inPlace := ["maps.clone"], unfollowed := true, recurses := true, apart := false, narrowed := true }
def FilesArmsUptoSaid : Prop := filesArmsUptoRow.holds Try.pinned (OpenSpec.upto filesArmsSpec)

/-- 'heliographlaw10.FilesSwaps', WHERE WHAT IT READS IS OF BULK AT MOST 1048576: true; the input reads as it did. -/
def filesSwapsUptoRow : OpenClaim := { program := "ytdopmcepfacdlaa", sum := "cb789aa42cbacdc1f14540d8541c134093570b9de61699e023ec7e0740fb1376", func := "heliograph/heliographlaw10.FilesSwaps", spec := "filesSwaps", inPlace := ["maps.clone"], unfollowed := true, recurses := true, apart := false, narrowed := true }
def FilesSwapsUptoSaid : Prop := filesSwapsUptoRow.holds Try.pinned (OpenSpec.upto filesSwapsSpec)

/-- 'heliographlaw10.FilesReads', WHERE WHAT IT READS IS OF BULK AT MOST 1048576: true; the input reads as it did. -/
def filesReadsUptoRow : OpenClaim := { program := "ytdopmcepfacdlaa", sum := "cb789aa42cbacdc1f14540d8541c134093570b9de61699e023ec7e0740fb1376", func := "heliograph/heliographlaw10.FilesReads", spec := "filesReads", inPlace := ["maps.clone"], unfollowed := true, recurses := true, apart := false, narrowed := true }
def FilesReadsUptoSaid : Prop := filesReadsUptoRow.holds Try.pinned (OpenSpec.upto filesReadsSpec)

/-- 'heliographlaw10.FilesPlays', WHERE WHAT IT READS IS OF BULK AT MOST 1048576: true; the input reads as it did. -/
def filesPlaysUptoRow : OpenClaim := { program := "ytdopmcepfacdlaa", sum := "cb789aa42cbacdc1f14540d8541c134093570b9de61699e023ec7e0740fb1376", func := "heliograph/heliographlaw10.FilesPlays", spec := "filesPlays", inPlace := ["maps.clone"], unfollowed := true, recurses := true, apart := false, narrowed := true }
def FilesPlaysUptoSaid : Prop := filesPlaysUptoRow.holds Try.pinned (OpenSpec.upto filesPlaysSpec)

/-- 'heliographlaw10.FilesNil', WHERE WHAT IT READS IS OF BULK AT MOST 1048576: true; the input reads as it did. -/
def filesNilUptoRow : OpenClaim := { program := "ytdopmcepfacdlaa", sum := "cb789aa42cbacdc1f14540d8541c134093570b9de61699e023ec7e0740fb1376", func := "heliograph/heliographlaw10.FilesNil", spec := "filesNil", inPlace := ["maps.clone"], unfollowed := true, recurses := true, apart := false, narrowed := true }
def FilesNilUptoSaid : Prop := filesNilUptoRow.holds Try.pinned (OpenSpec.upto filesNilSpec)

end Rows
end Go.Proofs.Ytdopmcepfacdlaa

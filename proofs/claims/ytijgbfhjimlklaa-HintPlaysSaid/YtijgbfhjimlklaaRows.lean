/-
  No cell of these rows narrows 'for every input' (looked for: loops, veiled, ifaces, maps, wideKeys, modest, calm, conditions, laid).
  DERIVED. THE GIVEN ROWS OF THIS SEAT. 5 by the template 'for every input the law returns true; each argument reads behind the call as it read before'; 0 by the template 'total and deterministic' (their statements: YtijgbfhjimlklaaTotals.lean).
  GIVEN WITH THE SEED: the statements are not yours to turn. If you find one false, say at which input.
  Laid BY PROGRAM, IN A SANDBOX (cutbox-rows.mjs): the forced cells as the released guide's own fill.sh prints them over the translation c80a5e275d85a113… (all of the seat's roots in one cut). By AI agents, Wed Nov 11 2026. No macro, syntax, notation, axiom, sorry.
-/
import Derived.Test.YtijgbfhjimlklaaChecked
import GoSem.Claim
import GoSem.ClaimJoined
import GoSem.ClaimMapViews
import Derived.JoinedTies
import Derived.KernelRfl
namespace Go.Proofs.Ytijgbfhjimlklaa
/- THE CELL 'sum', in the pinned program and in every row, IS THE sha256 OF THE DUMP (.gsa) THAT YtijgbfhjimlklaaProg.lean LOADS. Nothing in Lean hashes anything: it is a label: what it is worth is what the hold of that sum in a sandbox is worth. -/
noncomputable def Try.pinned : Pinned := { name := "ytijgbfhjimlklaa", sum := "c80a5e275d85a113f6547406a6ad1b1f13ebd762ca898bcc6716349a2c7e3034", checked := Try.checked }
namespace Rows
def none {H : Type} : Left H := { results := [], args := [] }

/-- 'heliographlaw16.HintHands': WHATEVER THE INPUT: true; the input reads as it did. -/
def hintHandsSpec : ChangeSpec := { name := "hintHands", fn := fun _ => fun
  | [d1, d2, d3] => { results := [.lit (.bool true)], args := [d1, d2, d3] }
  | _ => none }
def hintHandsRow : OpenClaim := { program := "ytijgbfhjimlklaa", sum := "c80a5e275d85a113f6547406a6ad1b1f13ebd762ca898bcc6716349a2c7e3034", func := "heliograph/heliographlaw16.HintHands", spec := "hintHands", unfollowed := true, recurses := true, plainKeys := false, apart := false }
def HintHandsSaid : Prop := hintHandsRow.holds Try.pinned (OpenSpec.ofChange hintHandsSpec)

/-- ITS FALSE NEIGHBOUR: 'it returns false'. Refute it at one input. -/
def hintHandsWrong : ChangeSpec := { name := "hintHands", fn := fun _ => fun
  | [d1, d2, d3] => { results := [.lit (.bool false)], args := [d1, d2, d3] }
  | _ => none }
def HintHandsWrongFalsely : Prop := hintHandsRow.holds Try.pinned (OpenSpec.ofChange hintHandsWrong)

/-- 'heliographlaw16.HintBounds': WHATEVER THE INPUT: true; the input reads as it did. -/
def hintBoundsSpec : ChangeSpec := { name := "hintBounds", fn := fun _ => fun
  | [d1, d2, d3] => { results := [.lit (.bool true)], args := [d1, d2, d3] }
  | _ => none }
def hintBoundsRow : OpenClaim := { program := "ytijgbfhjimlklaa", sum := "c80a5e275d85a113f6547406a6ad1b1f13ebd762ca898bcc6716349a2c7e3034", func := "heliograph/heliographlaw16.HintBounds", spec := "hintBounds", unfollowed := true, recurses := true, plainKeys := false, apart := false }
def HintBoundsSaid : Prop := hintBoundsRow.holds Try.pinned (OpenSpec.ofChange hintBoundsSpec)

/-- ITS FALSE NEIGHBOUR: 'it returns false'. Refute it at one input. -/
def hintBoundsWrong : ChangeSpec := { name := "hintBounds", fn := fun _ => fun
  | [d1, d2, d3] => { results := [.lit (.bool false)], args := [d1, d2, d3] }
  | _ => none }
def HintBoundsWrongFalsely : Prop := hintBoundsRow.holds Try.pinned (OpenSpec.ofChange hintBoundsWrong)

/-- 'heliographlaw16.HintDrops': WHATEVER THE INPUT: true; the input reads as it did. -/
def hintDropsSpec : ChangeSpec := { name := "hintDrops", fn := fun _ => fun
  | [d1, d2, d3] => { results := [.lit (.bool true)], args := [d1, d2, d3] }
  | _ => none }
def hintDropsRow : OpenClaim := { program := "ytijgbfhjimlklaa", sum := "c80a5e275d85a113f6547406a6ad1b1f13ebd762ca898bcc6716349a2c7e3034", func := "heliograph/heliographlaw16.HintDrops", spec := "hintDrops", unfollowed := true, recurses := true, plainKeys := false, apart := false }
def HintDropsSaid : Prop := hintDropsRow.holds Try.pinned (OpenSpec.ofChange hintDropsSpec)

/-- ITS FALSE NEIGHBOUR: 'it returns false'. Refute it at one input. -/
def hintDropsWrong : ChangeSpec := { name := "hintDrops", fn := fun _ => fun
  | [d1, d2, d3] => { results := [.lit (.bool false)], args := [d1, d2, d3] }
  | _ => none }
def HintDropsWrongFalsely : Prop := hintDropsRow.holds Try.pinned (OpenSpec.ofChange hintDropsWrong)

/-- 'heliographlaw16.HintPlays': WHATEVER THE INPUT: true; the input reads as it did. -/
def hintPlaysSpec : ChangeSpec := { name := "hintPlays", fn := fun _ => fun
  | [d1, d2, d3] => { results := [.lit (.bool true)], args := [d1, d2, d3] }
  | _ => none }
def hintPlaysRow : OpenClaim := { program := "ytijgbfhjimlklaa", sum := "c80a5e275d85a113f6547406a6ad1b1f13ebd762ca898bcc6716349a2c7e3034", func := "heliograph/heliographlaw16.HintPlays", spec := "hintPlays", unfollowed := true, recurses := true, plainKeys := false, apart := false }
def HintPlaysSaid : Prop := hintPlaysRow.holds Try.pinned (OpenSpec.ofChange hintPlaysSpec)

/-- ITS FALSE NEIGHBOUR: 'it returns false'. Refute it at one input. -/
def hintPlaysWrong : ChangeSpec := { name := "hintPlays", fn := fun _ => fun
  | [d1, d2, d3] => { results := [.lit (.bool false)], args := [d1, d2, d3] }
  | _ => none }
def HintPlaysWrongFalsely : Prop := hintPlaysRow.holds Try.pinned (OpenSpec.ofChange hintPlaysWrong)

/-- 'heliographlaw16.HintNil': WHATEVER THE INPUT: true; the input reads as it did. -/
def hintNilSpec : ChangeSpec := { name := "hintNil", fn := fun _ => fun
  | [d] => { results := [.lit (.bool true)], args := [d] }
  | _ => none }
def hintNilRow : OpenClaim := { program := "ytijgbfhjimlklaa", sum := "c80a5e275d85a113f6547406a6ad1b1f13ebd762ca898bcc6716349a2c7e3034", func := "heliograph/heliographlaw16.HintNil", spec := "hintNil", unfollowed := true, recurses := true, plainKeys := false, apart := false }
def HintNilSaid : Prop := hintNilRow.holds Try.pinned (OpenSpec.ofChange hintNilSpec)

/-- ITS FALSE NEIGHBOUR: 'it returns false'. Refute it at one input. -/
def hintNilWrong : ChangeSpec := { name := "hintNil", fn := fun _ => fun
  | [d] => { results := [.lit (.bool false)], args := [d] }
  | _ => none }
def HintNilWrongFalsely : Prop := hintNilRow.holds Try.pinned (OpenSpec.ofChange hintNilWrong)

/- THE SECOND FORM. 'bulk': how many values and letters a reading holds, each counted each time it is reached (what is shared counts as often as it is met; a slice's spare places count too). A statement '..UptoSaid' is the law's where the arguments, and the package variables that the reading takes, are together of bulk at most 1048576: NARROWER than '..Said'. Prove '..Said' where nothing that the law and all that it calls make is longer than what came in: it says more and counts as full. Else prove '..UptoSaid'. A law counts once. -/
mutual
def uptoBulk {H : Type} : DataW H → Nat
  | .lit (.string bytes) => bytes.length + 1
  | .lit _ => 1
  | .nil => 1
  | .ptr d => uptoBulk d + 1
  | .slice elems spare => uptoBulkAll elems + uptoBulkAll spare + 1
  | .agg parts => uptoBulkAll parts + 1
  | .iface _ d => uptoBulk d + 1
  | .map entries => uptoBulkEntries entries + 1
  | .held _ => 1
def uptoBulkAll {H : Type} : List (DataW H) → Nat
  | [] => 0
  | d :: r => uptoBulk d + uptoBulkAll r
def uptoBulkEntries {H : Type} : List (Lit × DataW H) → Nat
  | [] => 0
  | x :: r => uptoBulkEntry x + uptoBulkEntries r
def uptoBulkEntry {H : Type} : Lit × DataW H → Nat
  | (.string bytes, d) => bytes.length + uptoBulk d + 1
  | (_, d) => uptoBulk d + 1
 end
def uptoSmall : (H : Type) → List (DataW H) → Bool := fun _ ds => decide (uptoBulkAll ds ≤ 1048576)
def OpenSpec.upto (s : _root_.Go.ChangeSpec) : _root_.Go.OpenSpec := { _root_.Go.OpenSpec.ofChange s with cond := some uptoSmall }

/-- 'heliographlaw16.HintHands', WHERE WHAT IT READS IS OF BULK AT MOST 1048576: true; the input reads as it did. -/
def hintHandsUptoRow : OpenClaim := { program := "ytijgbfhjimlklaa", sum := "c80a5e275d85a113f6547406a6ad1b1f13ebd762ca898bcc6716349a2c7e3034", func := "heliograph/heliographlaw16.HintHands", spec := "hintHands", unfollowed := true, recurses := true, plainKeys := false, apart := false, narrowed := true }
def HintHandsUptoSaid : Prop := hintHandsUptoRow.holds Try.pinned (OpenSpec.upto hintHandsSpec)

/-- 'heliographlaw16.HintBounds', WHERE WHAT IT READS IS OF BULK AT MOST 1048576: true; the input reads as it did. -/
def hintBoundsUptoRow : OpenClaim := { program := "ytijgbfhjimlklaa", sum := "c80a5e275d85a113f6547406a6ad1b1f13ebd762ca898bcc6716349a2c7e3034", func := "heliograph/heliographlaw16.HintBounds", spec := "hintBounds", unfollowed := true, recurses := true, plainKeys := false, apart := false, narrowed := true }
def HintBoundsUptoSaid : Prop := hintBoundsUptoRow.holds Try.pinned (OpenSpec.upto hintBoundsSpec)

/-- 'heliographlaw16.HintDrops', WHERE WHAT IT READS IS OF BULK AT MOST 1048576: true; the input reads as it did. -/
def hintDropsUptoRow : OpenClaim := { program := "ytijgbfhjimlklaa", sum := "c80a5e275d85a113f6547406a6ad1b1f13ebd762ca898bcc6716349a2c7e3034", func := "heliograph/heliographlaw16.HintDrops", spec := "hintDrops", unfollowed := true, recurses := true, plainKeys := false, apart := false, narrowed := true }
def HintDropsUptoSaid : Prop := hintDropsUptoRow.holds Try.pinned (OpenSpec.upto hintDropsSpec)

/-- 'heliographlaw16.HintPlays', WHERE WHAT IT READS IS OF BULK AT MOST 1048576: true; the input reads as it did. -/
def hintPlaysUptoRow : OpenClaim := { program := "ytijgbfhjimlklaa", sum := "c80a5e275d85a113f6547406a6ad1b1f13ebd762ca898bcc6716349a2c7e3034", func := "heliograph/heliographlaw16.HintPlays", spec := "hintPlays", unfollowed := true, recurses := true, plainKeys := false, apart := false, narrowed := true }
def HintPlaysUptoSaid : Prop := hintPlaysUptoRow.holds Try.pinned (OpenSpec.upto hintPlaysSpec)

/-- 'heliographlaw16.HintNil', WHERE WHAT IT READS IS OF BULK AT MOST 1048576: true; the input reads as it did. -/
def hintNilUptoRow : OpenClaim := { program := "ytijgbfhjimlklaa", sum := "c80a5e275d85a113f6547406a6ad1b1f13ebd762ca898bcc6716349a2c7e3034", func := "heliograph/heliographlaw16.HintNil", spec := "hintNil", unfollowed := true, recurses := true, plainKeys := false, apart := false, narrowed := true }
def HintNilUptoSaid : Prop := hintNilUptoRow.holds Try.pinned (OpenSpec.upto hintNilSpec)

end Rows
end Go.Proofs.Ytijgbfhjimlklaa

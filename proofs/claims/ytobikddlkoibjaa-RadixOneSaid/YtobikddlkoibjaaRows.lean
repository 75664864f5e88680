/-
  No cell of these rows narrows 'for every input' (looked for: loops, veiled, ifaces, maps, wideKeys, modest, calm, conditions, laid).
  DERIVED. THE GIVEN ROWS OF THIS SEAT. 7 by the template 'for every input the law returns true; each argument reads behind the call as it read before'; 0 by the template 'total and deterministic' (their statements: YtobikddlkoibjaaTotals.lean).
  GIVEN WITH THE SEED: the statements are not yours to turn. If you find one false, say at which input.
  Laid BY PROGRAM, IN A SANDBOX (cutbox-rows.mjs): the forced cells as the released guide's own fill.sh prints them over the translation 9a39248b8c5dee66… (all of the seat's roots in one cut). By AI agents, Wed Nov 11 2026. No macro, syntax, notation, axiom, sorry.
-/
import Derived.Test.YtobikddlkoibjaaChecked
import GoSem.Claim
import GoSem.ClaimJoined
import GoSem.ClaimMapViews
import Derived.JoinedTies
import Derived.KernelRfl
namespace Go.Proofs.Ytobikddlkoibjaa
/- THE CELL 'sum', in the pinned program and in every row, IS THE sha256 OF THE DUMP (.gsa) THAT YtobikddlkoibjaaProg.lean LOADS. Nothing in Lean hashes anything: it is a label: what it is worth is what the hold of that sum in a sandbox is worth. -/
noncomputable def Try.pinned : Pinned := { name := "ytobikddlkoibjaa", sum := "9a39248b8c5dee66d5df96bc19aa0babfbc392d416518a0bcab552944cb47784", checked := Try.checked }
namespace Rows
def none {H : Type} : Left H := { results := [], args := [] }

/-- 'steadfastlaw09.RadixLeaves': WHATEVER THE INPUT: true; the input reads as it did. -/
def radixLeavesSpec : ChangeSpec := { name := "radixLeaves", fn := fun _ => fun
  | [d1, d2, d3] => { results := [.lit (.bool true)], args := [d1, d2, d3] }
  | _ => none }
def radixLeavesRow : OpenClaim := { program := "ytobikddlkoibjaa", sum := "9a39248b8c5dee66d5df96bc19aa0babfbc392d416518a0bcab552944cb47784", func := "steadfast/steadfastlaw09.RadixLeaves", spec := "radixLeaves", unfollowed := true, recurses := true, apart := false }
def RadixLeavesSaid : Prop := radixLeavesRow.holds Try.pinned (OpenSpec.ofChange radixLeavesSpec)

/-- ITS FALSE NEIGHBOUR: 'it returns false'. Refute it at one input. -/
def radixLeavesWrong : ChangeSpec := { name := "radixLeaves", fn := fun _ => fun
  | [d1, d2, d3] => { results := [.lit (.bool false)], args := [d1, d2, d3] }
  | _ => none }
def RadixLeavesWrongFalsely : Prop := radixLeavesRow.holds Try.pinned (OpenSpec.ofChange radixLeavesWrong)

/-- 'steadfastlaw09.RadixRoots': WHATEVER THE INPUT: true; the input reads as it did. -/
def radixRootsSpec : ChangeSpec := { name := "radixRoots", fn := fun _ => fun
  | [d1, d2] => { results := [.lit (.bool true)], args := [d1, d2] }
  | _ => none }
def radixRootsRow : OpenClaim := { program := "ytobikddlkoibjaa", sum := "9a39248b8c5dee66d5df96bc19aa0babfbc392d416518a0bcab552944cb47784", func := "steadfast/steadfastlaw09.RadixRoots", spec := "radixRoots", unfollowed := true, recurses := true, apart := false }
def RadixRootsSaid : Prop := radixRootsRow.holds Try.pinned (OpenSpec.ofChange radixRootsSpec)

/-- ITS FALSE NEIGHBOUR: 'it returns false'. Refute it at one input. -/
def radixRootsWrong : ChangeSpec := { name := "radixRoots", fn := fun _ => fun
  | [d1, d2] => { results := [.lit (.bool false)], args := [d1, d2] }
  | _ => none }
def RadixRootsWrongFalsely : Prop := radixRootsRow.holds Try.pinned (OpenSpec.ofChange radixRootsWrong)

/-- 'steadfastlaw09.RadixBack': WHATEVER THE INPUT: true; the input reads as it did. -/
def radixBackSpec : ChangeSpec := { name := "radixBack", fn := fun _ => fun
  | [d1, d2, d3] => { results := [.lit (.bool true)], args := [d1, d2, d3] }
  | _ => none }
def radixBackRow : OpenClaim := { program := "ytobikddlkoibjaa", sum := "9a39248b8c5dee66d5df96bc19aa0babfbc392d416518a0bcab552944cb47784", func := "steadfast/steadfastlaw09.RadixBack", spec := "radixBack", unfollowed := true, recurses := true, apart := false }
def RadixBackSaid : Prop := radixBackRow.holds Try.pinned (OpenSpec.ofChange radixBackSpec)

/-- ITS FALSE NEIGHBOUR: 'it returns false'. Refute it at one input. -/
def radixBackWrong : ChangeSpec := { name := "radixBack", fn := fun _ => fun
  | [d1, d2, d3] => { results := [.lit (.bool false)], args := [d1, d2, d3] }
  | _ => none }
def RadixBackWrongFalsely : Prop := radixBackRow.holds Try.pinned (OpenSpec.ofChange radixBackWrong)

/-- 'steadfastlaw09.RadixDiffers': WHATEVER THE INPUT: true; the input reads as it did. -/
def radixDiffersSpec : ChangeSpec := { name := "radixDiffers", fn := fun _ => fun
  | [d1, d2] => { results := [.lit (.bool true)], args := [d1, d2] }
  | _ => none }
def radixDiffersRow : OpenClaim := { program := "ytobikddlkoibjaa", sum := "9a39248b8c5dee66d5df96bc19aa0babfbc392d416518a0bcab552944cb47784", func := "steadfast/steadfastlaw09.RadixDiffers", spec := "radixDiffers", unfollowed := true, recurses := true, apart := false }
def RadixDiffersSaid : Prop := radixDiffersRow.holds Try.pinned (OpenSpec.ofChange radixDiffersSpec)

/-- ITS FALSE NEIGHBOUR: 'it returns false'. Refute it at one input. -/
def radixDiffersWrong : ChangeSpec := { name := "radixDiffers", fn := fun _ => fun
  | [d1, d2] => { results := [.lit (.bool false)], args := [d1, d2] }
  | _ => none }
def RadixDiffersWrongFalsely : Prop := radixDiffersRow.holds Try.pinned (OpenSpec.ofChange radixDiffersWrong)

/-- 'steadfastlaw09.RadixOne': WHATEVER THE INPUT: true; the input reads as it did. -/
def radixOneSpec : ChangeSpec := { name := "radixOne", fn := fun _ => fun
  | [d1, d2, d3] => { results := [.lit (.bool true)], args := [d1, d2, d3] }
  | _ => none }
def radixOneRow : OpenClaim := { program := "ytobikddlkoibjaa", sum := "9a39248b8c5dee66d5df96bc19aa0babfbc392d416518a0bcab552944cb47784", func := "steadfast/steadfastlaw09.RadixOne", spec := "radixOne", unfollowed := true, recurses := true, apart := false }
def RadixOneSaid : Prop := radixOneRow.holds Try.pinned (OpenSpec.ofChange radixOneSpec)

/-- ITS FALSE NEIGHBOUR: 'it returns false'. Refute it at one input. -/
def radixOneWrong : ChangeSpec := { name := "radixOne", fn := fun _ => fun
  | [d1, d2, d3] => { results := [.lit (.bool false)], args := [d1, d2, d3] }
  | _ => none }
def RadixOneWrongFalsely : Prop := radixOneRow.holds Try.pinned (OpenSpec.ofChange radixOneWrong)

/-- 'steadfastlaw09.RadixWritten': WHATEVER THE INPUT: true; the input reads as it did. -/
def radixWrittenSpec : ChangeSpec := { name := "radixWritten", fn := fun _ => fun
  | [d1, d2] => { results := [.lit (.bool true)], args := [d1, d2] }
  | _ => none }
def radixWrittenRow : OpenClaim := { program := "ytobikddlkoibjaa", sum := "9a39248b8c5dee66d5df96bc19aa0babfbc392d416518a0bcab552944cb47784", func := "steadfast/steadfastlaw09.RadixWritten", spec := "radixWritten", unfollowed := true, recurses := true, apart := false }
def RadixWrittenSaid : Prop := radixWrittenRow.holds Try.pinned (OpenSpec.ofChange radixWrittenSpec)

/-- ITS FALSE NEIGHBOUR: 'it returns false'. Refute it at one input. -/
def radixWrittenWrong : ChangeSpec := { name := "radixWritten", fn := fun _ => fun
  | [d1, d2] => { results := [.lit (.bool false)], args := [d1, d2] }
  | _ => none }
def RadixWrittenWrongFalsely : Prop := radixWrittenRow.holds Try.pinned (OpenSpec.ofChange radixWrittenWrong)

/-- 'steadfastlaw09.RadixLoads': WHATEVER THE INPUT: true; the input reads as it did. -/
def radixLoadsSpec : ChangeSpec := { name := "radixLoads", fn := fun _ => fun
  | [d1, d2, d3] => { results := [.lit (.bool true)], args := [d1, d2, d3] }
  | _ => none }
def radixLoadsRow : OpenClaim := { program := "ytobikddlkoibjaa", sum := "9a39248b8c5dee66d5df96bc19aa0babfbc392d416518a0bcab552944cb47784", func := "steadfast/steadfastlaw09.RadixLoads", spec := "radixLoads", unfollowed := true, recurses := true, apart := false }
def RadixLoadsSaid : Prop := radixLoadsRow.holds Try.pinned (OpenSpec.ofChange radixLoadsSpec)

/-- ITS FALSE NEIGHBOUR: 'it returns false'. Refute it at one input. -/
def radixLoadsWrong : ChangeSpec := { name := "radixLoads", fn := fun _ => fun
  | [d1, d2, d3] => { results := [.lit (.bool false)], args := [d1, d2, d3] }
  | _ => none }
def RadixLoadsWrongFalsely : Prop := radixLoadsRow.holds Try.pinned (OpenSpec.ofChange radixLoadsWrong)

/- THE SECOND FORM. 'bulk': how many values and letters a reading holds, each counted each time it is reached (what is shared counts as often as it is met; a slice's spare places count too). A statement '..UptoSaid' is the law's where the arguments, and the package variables that the reading takes, are together of bulk at most 1048576: NARROWER than '..Said'. Prove '..Said' where nothing that the law and all that it calls make is longer than what came in: it says more and counts as full. Else prove '..UptoSaid'. A law counts once. -/
mutual
def uptoBulk {H : Type} : DataW H → Nat
  | .lit (.string bytes) => bytes.length + 1
  | .lit _ => 1
  | .nil => 1
  | .ptr d => uptoBulk d + 1
  | .slice elems spare => uptoBulkAll elems + uptoBulkAll spare + 1
  | .agg parts => uptoBulkAll parts + 1
  | .iface _ d => uptoBulk d + 1
  | .map entries => uptoBulkEntries entries + 1
  | .held _ => 1
def uptoBulkAll {H : Type} : List (DataW H) → Nat
  | [] => 0
  | d :: r => uptoBulk d + uptoBulkAll r
def uptoBulkEntries {H : Type} : List (Lit × DataW H) → Nat
  | [] => 0
  | x :: r => uptoBulkEntry x + uptoBulkEntries r
def uptoBulkEntry {H : Type} : Lit × DataW H → Nat
  | (.string bytes, d) => bytes.length + uptoBulk d + 1
  | (_, d) => uptoBulk d + 1
 end
def uptoSmall : (H : Type) → List (DataW H) → Bool := fun _ ds => decide (uptoBulkAll ds ≤ 1048576)
def OpenSpec.upto (s : _root_.Go.ChangeSpec) : _root_.Go.OpenSpec := { _root_.Go.OpenSpec.ofChange s with cond := some uptoSmall }

/-- 'steadfastlaw09.RadixLeaves', WHERE WHAT IT READS IS OF BULK AT MOST 1048576: true; the input reads as it did. -/
def radixLeavesUptoRow : OpenClaim := { program := "ytobikddlkoibjaa", sum := "9a39248b8c5dee66d5df96bc19aa0babfbc392d416518a0bcab552944cb47784", func := "steadfast/steadfastlaw09.RadixLeaves", spec := "radixLeaves", unfollowed := true, recurses := true, apart := false, narrowed := true }
def RadixLeavesUptoSaid : Prop := radixLeavesUptoRow.holds Try.pinned (OpenSpec.upto radixLeavesSpec)

/-- 'steadfastlaw09.RadixRoots', WHERE WHAT IT READS IS OF BULK AT MOST 1048576: true; the input reads as it did. -/
def radixRootsUptoRow : OpenClaim := { program := "ytobikddlkoibjaa", sum := "9a39248b8c5dee66d5df96bc19aa0babfbc392d416518a0bcab552944cb47784", func := "steadfast/steadfastlaw09.RadixRoots", spec := "radixRoots", unfollowed := true, recurses := true, apart := false, narrowed := true }
def RadixRootsUptoSaid : Prop := radixRootsUptoRow.holds Try.pinned (OpenSpec.upto radixRootsSpec)

/-- 'steadfastlaw09.RadixBack', WHERE WHAT IT READS IS OF BULK AT MOST 1048576: true; the input reads as it did. -/
def radixBackUptoRow : OpenClaim := { program := "ytobikddlkoibjaa", sum := "9a39248b8c5dee66d5df96bc19aa0babfbc392d416518a0bcab552944cb47784", func := "steadfast/steadfastlaw09.RadixBack", spec := "radixBack", unfollowed := true, recurses := true, apart := false, narrowed := true }
def RadixBackUptoSaid : Prop := radixBackUptoRow.holds Try.pinned (OpenSpec.upto radixBackSpec)

/-- 'steadfastlaw09.RadixDiffers', WHERE WHAT IT READS IS OF BULK AT MOST 1048576: true; the input reads as it did. -/
def radixDiffersUptoRow : OpenClaim := { program := "ytobikddlkoibjaa", sum := "9a39248b8c5dee66d5df96bc19aa0babfbc392d416518a0bcab552944cb47784", func := "steadfast/steadfastlaw09.RadixDiffers", spec := "radixDiffers", unfollowed := true, recurses := true, apart := false, narrowed := true }
def RadixDiffersUptoSaid : Prop := radixDiffersUptoRow.holds Try.pinned (OpenSpec.upto radixDiffersSpec)

/-- 'steadfastlaw09.RadixOne', WHERE WHAT IT READS IS OF BULK AT MOST 1048576: true; the input reads as it did. -/
def radixOneUptoRow : OpenClaim := { program := "ytobikddlkoibjaa", sum := "9a39248b8c5dee66d5df96bc19aa0babfbc392d416518a0bcab552944cb47784", func := "steadfast/steadfastlaw09.RadixOne", spec := "radixOne", unfollowed := true, recurses := true, apart := false, narrowed := true }
def RadixOneUptoSaid : Prop := radixOneUptoRow.holds Try.pinned (OpenSpec.upto radixOneSpec)

/-- 'steadfastlaw09.RadixWritten', WHERE WHAT IT READS IS OF BULK AT MOST 1048576: true; the input reads as it did. -/
def radixWrittenUptoRow : OpenClaim := { program := "ytobikddlkoibjaa", sum := "9a39248b8c5dee66d5df96bc19aa0babfbc392d416518a0bcab552944cb47784", func := "steadfast/steadfastlaw09.RadixWritten", spec := "radixWritten", unfollowed := true, recurses := true, apart := false, narrowed := true }
def RadixWrittenUptoSaid : Prop := radixWrittenUptoRow.holds Try.pinned (OpenSpec.upto radixWrittenSpec)

/-- 'steadfastlaw09.RadixLoads', WHERE WHAT IT READS IS OF BULK AT MOST 1048576: true; the input reads as it did. -/
def radixLoadsUptoRow : OpenClaim := { program := "ytobikddlkoibjaa", sum := "9a39248b8c5dee66d5df96bc19aa0babfbc392d416518a0bcab552944cb47784", func := "steadfast/steadfastlaw09.RadixLoads", spec := "radixLoads", unfollowed := true, recurses := true, apart := false, narrowed := true }
def RadixLoadsUptoSaid : Prop := radixLoadsUptoRow.holds Try.pinned (OpenSpec.upto radixLoadsSpec)

end Rows
end Go.Proofs.Ytobikddlkoibjaa

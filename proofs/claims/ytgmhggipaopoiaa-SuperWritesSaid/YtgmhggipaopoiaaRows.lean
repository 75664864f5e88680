/-
  No cell of these rows narrows 'for every input' (looked for: loops, veiled, ifaces, maps, wideKeys, modest, calm, conditions, laid).
  DERIVED. THE GIVEN ROWS OF THIS SEAT. 7 by the template 'for every input the law returns true; each argument reads behind the call as it read before'; 0 by the template 'total and deterministic' (their statements: YtgmhggipaopoiaaTotals.lean).
  GIVEN WITH THE SEED: the statements are not yours to turn. If you find one false, say at which input.
  Laid BY PROGRAM, IN A SANDBOX (cutbox-rows.mjs): the forced cells as the released guide's own fill.sh prints them over the translation 68e72bdeaaf90d8c… (all of the seat's roots in one cut). By AI agents, Wed Nov 11 2026. No macro, syntax, notation, axiom, sorry.
-/
import Derived.Test.YtgmhggipaopoiaaChecked
import GoSem.Claim
import GoSem.ClaimJoined
import GoSem.ClaimMapViews
import Derived.JoinedTies
import Derived.KernelRfl
namespace Go.Proofs.Ytgmhggipaopoiaa
/- THE CELL 'sum', in the pinned program and in every row, IS THE sha256 OF THE DUMP (.gsa) THAT YtgmhggipaopoiaaProg.lean LOADS. Nothing in Lean hashes anything: it is a label: what it is worth is what the hold of that sum in a sandbox is worth. -/
noncomputable def Try.pinned : Pinned := { name := "ytgmhggipaopoiaa", sum := "68e72bdeaaf90d8cef0956a3d170cbe88d713d91e8c63234553b15fa1f3ad1de", checked := Try.checked }
namespace Rows
def none {H : Type} : Left H := { results := [], args := [] }

/-- 'steadfastlaw05.SuperLines': WHATEVER THE INPUT: true; the input reads as it did. -/
def superLinesSpec : ChangeSpec := { name := "superLines", fn := fun _ => fun
  | [d1, d2] => { results := [.lit (.bool true)], args := [d1, d2] }
  | _ => none }
def superLinesRow : OpenClaim := { program := "ytgmhggipaopoiaa", sum := "68e72bdeaaf90d8cef0956a3d170cbe88d713d91e8c63234553b15fa1f3ad1de", func := "steadfast/steadfastlaw05.SuperLines", spec := "superLines", apart := false }
def SuperLinesSaid : Prop := superLinesRow.holds Try.pinned (OpenSpec.ofChange superLinesSpec)

/-- ITS FALSE NEIGHBOUR: 'it returns false'. Refute it at one input. -/
def superLinesWrong : ChangeSpec := { name := "superLines", fn := fun _ => fun
  | [d1, d2] => { results := [.lit (.bool false)], args := [d1, d2] }
  | _ => none }
def SuperLinesWrongFalsely : Prop := superLinesRow.holds Try.pinned (OpenSpec.ofChange superLinesWrong)

/-- 'steadfastlaw05.SuperBest': WHATEVER THE INPUT: true; the input reads as it did. -/
def superBestSpec : ChangeSpec := { name := "superBest", fn := fun _ => fun
  | [d1, d2] => { results := [.lit (.bool true)], args := [d1, d2] }
  | _ => none }
def superBestRow : OpenClaim := { program := "ytgmhggipaopoiaa", sum := "68e72bdeaaf90d8cef0956a3d170cbe88d713d91e8c63234553b15fa1f3ad1de", func := "steadfast/steadfastlaw05.SuperBest", spec := "superBest", apart := false }
def SuperBestSaid : Prop := superBestRow.holds Try.pinned (OpenSpec.ofChange superBestSpec)

/-- ITS FALSE NEIGHBOUR: 'it returns false'. Refute it at one input. -/
def superBestWrong : ChangeSpec := { name := "superBest", fn := fun _ => fun
  | [d1, d2] => { results := [.lit (.bool false)], args := [d1, d2] }
  | _ => none }
def SuperBestWrongFalsely : Prop := superBestRow.holds Try.pinned (OpenSpec.ofChange superBestWrong)

/-- 'steadfastlaw05.SuperBack': WHATEVER THE INPUT: true; the input reads as it did. -/
def superBackSpec : ChangeSpec := { name := "superBack", fn := fun _ => fun
  | [d] => { results := [.lit (.bool true)], args := [d] }
  | _ => none }
def superBackRow : OpenClaim := { program := "ytgmhggipaopoiaa", sum := "68e72bdeaaf90d8cef0956a3d170cbe88d713d91e8c63234553b15fa1f3ad1de", func := "steadfast/steadfastlaw05.SuperBack", spec := "superBack", apart := false }
def SuperBackSaid : Prop := superBackRow.holds Try.pinned (OpenSpec.ofChange superBackSpec)

/-- ITS FALSE NEIGHBOUR: 'it returns false'. Refute it at one input. -/
def superBackWrong : ChangeSpec := { name := "superBack", fn := fun _ => fun
  | [d] => { results := [.lit (.bool false)], args := [d] }
  | _ => none }
def SuperBackWrongFalsely : Prop := superBackRow.holds Try.pinned (OpenSpec.ofChange superBackWrong)

/-- 'steadfastlaw05.SuperApart': WHATEVER THE INPUT: true; the input reads as it did. -/
def superApartSpec : ChangeSpec := { name := "superApart", fn := fun _ => fun
  | [d1, d2, d3] => { results := [.lit (.bool true)], args := [d1, d2, d3] }
  | _ => none }
def superApartRow : OpenClaim := { program := "ytgmhggipaopoiaa", sum := "68e72bdeaaf90d8cef0956a3d170cbe88d713d91e8c63234553b15fa1f3ad1de", func := "steadfast/steadfastlaw05.SuperApart", spec := "superApart", apart := false }
def SuperApartSaid : Prop := superApartRow.holds Try.pinned (OpenSpec.ofChange superApartSpec)

/-- ITS FALSE NEIGHBOUR: 'it returns false'. Refute it at one input. -/
def superApartWrong : ChangeSpec := { name := "superApart", fn := fun _ => fun
  | [d1, d2, d3] => { results := [.lit (.bool false)], args := [d1, d2, d3] }
  | _ => none }
def SuperApartWrongFalsely : Prop := superApartRow.holds Try.pinned (OpenSpec.ofChange superApartWrong)

/-- 'steadfastlaw05.SuperTurns': WHATEVER THE INPUT: true; the input reads as it did. -/
def superTurnsSpec : ChangeSpec := { name := "superTurns", fn := fun _ => fun
  | [d1, d2, d3] => { results := [.lit (.bool true)], args := [d1, d2, d3] }
  | _ => none }
def superTurnsRow : OpenClaim := { program := "ytgmhggipaopoiaa", sum := "68e72bdeaaf90d8cef0956a3d170cbe88d713d91e8c63234553b15fa1f3ad1de", func := "steadfast/steadfastlaw05.SuperTurns", spec := "superTurns", unfollowed := true, recurses := true, apart := false }
def SuperTurnsSaid : Prop := superTurnsRow.holds Try.pinned (OpenSpec.ofChange superTurnsSpec)

/-- ITS FALSE NEIGHBOUR: 'it returns false'. Refute it at one input. -/
def superTurnsWrong : ChangeSpec := { name := "superTurns", fn := fun _ => fun
  | [d1, d2, d3] => { results := [.lit (.bool false)], args := [d1, d2, d3] }
  | _ => none }
def SuperTurnsWrongFalsely : Prop := superTurnsRow.holds Try.pinned (OpenSpec.ofChange superTurnsWrong)

/-- 'steadfastlaw05.SuperLasts': WHATEVER THE INPUT: true; the input reads as it did. -/
def superLastsSpec : ChangeSpec := { name := "superLasts", fn := fun _ => fun
  | [d1, d2] => { results := [.lit (.bool true)], args := [d1, d2] }
  | _ => none }
def superLastsRow : OpenClaim := { program := "ytgmhggipaopoiaa", sum := "68e72bdeaaf90d8cef0956a3d170cbe88d713d91e8c63234553b15fa1f3ad1de", func := "steadfast/steadfastlaw05.SuperLasts", spec := "superLasts", unfollowed := true, recurses := true, apart := false }
def SuperLastsSaid : Prop := superLastsRow.holds Try.pinned (OpenSpec.ofChange superLastsSpec)

/-- ITS FALSE NEIGHBOUR: 'it returns false'. Refute it at one input. -/
def superLastsWrong : ChangeSpec := { name := "superLasts", fn := fun _ => fun
  | [d1, d2] => { results := [.lit (.bool false)], args := [d1, d2] }
  | _ => none }
def SuperLastsWrongFalsely : Prop := superLastsRow.holds Try.pinned (OpenSpec.ofChange superLastsWrong)

/-- 'steadfastlaw05.SuperWrites': WHATEVER THE INPUT: true; the input reads as it did. -/
def superWritesSpec : ChangeSpec := { name := "superWrites", fn := fun _ => fun
  | [d1, d2, d3] => { results := [.lit (.bool true)], args := [d1, d2, d3] }
  | _ => none }
def superWritesRow : OpenClaim := { program := "ytgmhggipaopoiaa", sum := "68e72bdeaaf90d8cef0956a3d170cbe88d713d91e8c63234553b15fa1f3ad1de", func := "steadfast/steadfastlaw05.SuperWrites", spec := "superWrites", unfollowed := true, recurses := true, apart := false }
def SuperWritesSaid : Prop := superWritesRow.holds Try.pinned (OpenSpec.ofChange superWritesSpec)

/-- ITS FALSE NEIGHBOUR: 'it returns false'. Refute it at one input. -/
def superWritesWrong : ChangeSpec := { name := "superWrites", fn := fun _ => fun
  | [d1, d2, d3] => { results := [.lit (.bool false)], args := [d1, d2, d3] }
  | _ => none }
def SuperWritesWrongFalsely : Prop := superWritesRow.holds Try.pinned (OpenSpec.ofChange superWritesWrong)

/- THE SECOND FORM. 'bulk': how many values and letters a reading holds, each counted each time it is reached (what is shared counts as often as it is met; a slice's spare places count too). A statement '..UptoSaid' is the law's where the arguments, and the package variables that the reading takes, are together of bulk at most 1048576: NARROWER than '..Said'. Prove '..Said' where nothing that the law and all that it calls make is longer than what came in: it says more and counts as full. Else prove '..UptoSaid'. A law counts once. -/
mutual
def uptoBulk {H : Type} : DataW H → Nat
  | .lit (.string bytes) => bytes.length + 1
  | .lit _ => 1
  | .nil => 1
  | .ptr d => uptoBulk d + 1
  | .slice elems spare => uptoBulkAll elems + uptoBulkAll spare + 1
  | .agg parts => uptoBulkAll parts + 1
  | .iface _ d => uptoBulk d + 1
  | .map entries => uptoBulkEntries entries + 1
  | .held _ => 1
def uptoBulkAll {H : Type} : List (DataW H) → Nat
  | [] => 0
  | d :: r => uptoBulk d + uptoBulkAll r
def uptoBulkEntries {H : Type} : List (Lit × DataW H) → Nat
  | [] => 0
  | x :: r => uptoBulkEntry x + uptoBulkEntries r
def uptoBulkEntry {H : Type} : Lit × DataW H → Nat
  | (.string bytes, d) => bytes.length + uptoBulk d + 1
  | (_, d) => uptoBulk d + 1
 end
def uptoSmall : (H : Type) → List (DataW H) → Bool := fun _ ds => decide (uptoBulkAll ds ≤ 1048576)
def OpenSpec.upto (s : _root_.Go.ChangeSpec) : _root_.Go.OpenSpec := { _root_.Go.OpenSpec.ofChange s with cond := some uptoSmall }

/-- 'steadfastlaw05.SuperLines', WHERE WHAT IT READS IS OF BULK AT MOST 1048576: true; the input reads as it did. -/
def superLinesUptoRow : OpenClaim := { program := "ytgmhggipaopoiaa", sum := "68e72bdeaaf90d8cef0956a3d170cbe88d713d91e8c63234553b15fa1f3ad1de", func := "steadfast/steadfastlaw05.SuperLines", spec := "superLines", apart := false, narrowed := true }
def SuperLinesUptoSaid : Prop := superLinesUptoRow.holds Try.pinned (OpenSpec.upto superLinesSpec)

/-- 'steadfastlaw05.SuperBest', WHERE WHAT IT READS IS OF BULK AT MOST 1048576: true; the input reads as it did. -/
def superBestUptoRow : OpenClaim := { program := "ytgmhggipaopoiaa", sum := "68e72bdeaaf90d8cef0956a3d170cbe88d713d91e8c63234553b15fa1f3ad1de", func := "steadfast/steadfastlaw05.SuperBest", spec := "superBest", apart := false, narrowed := true }
def SuperBestUptoSaid : Prop := superBestUptoRow.holds Try.pinned (OpenSpec.upto superBestSpec)

/-- 'steadfastlaw05.SuperBack', WHERE WHAT IT READS IS OF BULK AT MOST 1048576: true; the input reads as it did. -/
def superBackUptoRow : OpenClaim := { program := "ytgmhggipaopoiaa", sum := "68e72bdeaaf90d8cef0956a3d170cbe88d713d91e8c63234553b15fa1f3ad1de", func := "steadfast/steadfastlaw05.SuperBack", spec := "superBack", apart := false, narrowed := true }
def SuperBackUptoSaid : Prop := superBackUptoRow.holds Try.pinned (OpenSpec.upto superBackSpec)

/-- 'steadfastlaw05.SuperApart', WHERE WHAT IT READS IS OF BULK AT MOST 1048576: true; the input reads as it did. -/
def superApartUptoRow : OpenClaim := { program := "ytgmhggipaopoiaa", sum := "68e72bdeaaf90d8cef0956a3d170cbe88d713d91e8c63234553b15fa1f3ad1de", func := "steadfast/steadfastlaw05.SuperApart", spec := "superApart", apart := false, narrowed := true }
def SuperApartUptoSaid : Prop := superApartUptoRow.holds Try.pinned (OpenSpec.upto superApartSpec)

/-- 'steadfastlaw05.SuperTurns', WHERE WHAT IT READS IS OF BULK AT MOST 1048576: true; the input reads as it did. -/
def superTurnsUptoRow : OpenClaim := { program := "ytgmhggipaopoiaa", sum := "68e72bdeaaf90d8cef0956a3d170cbe88d713d91e8c63234553b15fa1f3ad1de", func := "steadfast/steadfastlaw05.SuperTurns", spec := "superTurns", unfollowed := true, recurses := true, apart := false, narrowed := true }
def SuperTurnsUptoSaid : Prop := superTurnsUptoRow.holds Try.pinned (OpenSpec.upto superTurnsSpec)

/-- 'steadfastlaw05.SuperLasts', WHERE WHAT IT READS IS OF BULK AT MOST 1048576: true; the input reads as it did. -/
def superLastsUptoRow : OpenClaim := { program := "ytgmhggipaopoiaa", sum := "68e72bdeaaf90d8cef0956a3d170cbe88d713d91e8c63234553b15fa1f3ad1de", func := "steadfast/steadfastlaw05.SuperLasts", spec := "superLasts", unfollowed := true, recurses := true, apart := false, narrowed := true }
def SuperLastsUptoSaid : Prop := superLastsUptoRow.holds Try.pinned (OpenSpec.upto superLastsSpec)

/-- 'steadfastlaw05.SuperWrites', WHERE WHAT IT READS IS OF BULK AT MOST 1048576: true; the input reads as it did. -/
def superWritesUptoRow : OpenClaim := { program := "ytgmhggipaopoiaa", sum := "68e72bdeaaf90d8cef0956a3d170cbe88d713d91e8c63234553b15fa1f3ad1de", func := "steadfast/steadfastlaw05.SuperWrites", spec := "superWrites", unfollowed := true, recurses := true, apart := false, narrowed := true }
def SuperWritesUptoSaid : Prop := superWritesUptoRow.holds Try.pinned (OpenSpec.upto superWritesSpec)

end Rows
end Go.Proofs.Ytgmhggipaopoiaa

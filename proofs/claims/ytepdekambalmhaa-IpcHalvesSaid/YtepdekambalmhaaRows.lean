/-
  No cell of these rows narrows 'for every input' (looked for: loops, veiled, ifaces, maps, wideKeys, modest, calm, conditions, laid).
  DERIVED. THE GIVEN ROWS OF THIS SEAT. 4 by the template 'for every input the law returns true; each argument reads behind the call as it read before'; 0 by the template 'total and deterministic' (their statements: YtepdekambalmhaaTotals.lean).
  GIVEN WITH THE SEED: the statements are not yours to turn. If you find one false, say at which input.
  Laid BY PROGRAM, IN A SANDBOX (cutbox-rows.mjs): the forced cells as the released guide's own fill.sh prints them over the translation 3b6a60d648c9bd7e… (all of the seat's roots in one cut). By AI agents, Wed Nov 11 2026. No macro, syntax, notation, axiom, sorry.
-/
import Derived.Test.YtepdekambalmhaaChecked
import GoSem.Claim
import GoSem.ClaimJoined
import GoSem.ClaimMapViews
import Derived.JoinedTies
import Derived.KernelRfl
namespace Go.Proofs.Ytepdekambalmhaa
/- THE CELL 'sum', in the pinned program and in every row, IS THE sha256 OF THE DUMP (.gsa) THAT YtepdekambalmhaaProg.lean LOADS. Nothing in Lean hashes anything: it is a label: what it is worth is what the hold of that sum in a sandbox is worth. -/
noncomputable def Try.pinned : Pinned := { name := "ytepdekambalmhaa", sum := "3b6a60d648c9bd7e5e304ef4fd916fb2b62dd3e178bb6c227b0d58d5c64e622d", checked := Try.checked }
namespace Rows
def none {H : Type} : Left H := { results := [], args := [] }

/-- 'steadfastlaw20.IpcLines': WHATEVER THE INPUT: true; the input reads as it did. -/
def ipcLinesSpec : ChangeSpec := { name := "ipcLines", fn := fun _ => fun
  | [d1, d2, d3] => { results := [.lit (.bool true)], args := [d1, d2, d3] }
  | _ => none }
def ipcLinesRow : OpenClaim := { program := "ytepdekambalmhaa", sum := "3b6a60d648c9bd7e5e304ef4fd916fb2b62dd3e178bb6c227b0d58d5c64e622d", func := "steadfast/steadfastlaw20.IpcLines", spec := "ipcLines", unfollowed := true, recurses := true, apart := false }
def IpcLinesSaid : Prop := ipcLinesRow.holds Try.pinned (OpenSpec.ofChange ipcLinesSpec)

/-- ITS FALSE NEIGHBOUR: 'it returns false'. Refute it at one input. -/
def ipcLinesWrong : ChangeSpec := { name := "ipcLines", fn := fun _ => fun
  | [d1, d2, d3] => { results := [.lit (.bool false)], args := [d1, d2, d3] }
  | _ => none }
def IpcLinesWrongFalsely : Prop := ipcLinesRow.holds Try.pinned (OpenSpec.ofChange ipcLinesWrong)

/-- 'steadfastlaw20.IpcWaits': WHATEVER THE INPUT: true; the input reads as it did. -/
def ipcWaitsSpec : ChangeSpec := { name := "ipcWaits", fn := fun _ => fun
  | [d1, d2, d3] => { results := [.lit (.bool true)], args := [d1, d2, d3] }
  | _ => none }
def ipcWaitsRow : OpenClaim := { program := "ytepdekambalmhaa", sum := "3b6a60d648c9bd7e5e304ef4fd916fb2b62dd3e178bb6c227b0d58d5c64e622d", func := "steadfast/steadfastlaw20.IpcWaits", spec := "ipcWaits", unfollowed := true, recurses := true, apart := false }
def IpcWaitsSaid : Prop := ipcWaitsRow.holds Try.pinned (OpenSpec.ofChange ipcWaitsSpec)

/-- ITS FALSE NEIGHBOUR: 'it returns false'. Refute it at one input. -/
def ipcWaitsWrong : ChangeSpec := { name := "ipcWaits", fn := fun _ => fun
  | [d1, d2, d3] => { results := [.lit (.bool false)], args := [d1, d2, d3] }
  | _ => none }
def IpcWaitsWrongFalsely : Prop := ipcWaitsRow.holds Try.pinned (OpenSpec.ofChange ipcWaitsWrong)

/-- 'steadfastlaw20.IpcOrder': WHATEVER THE INPUT: true; the input reads as it did. -/
def ipcOrderSpec : ChangeSpec := { name := "ipcOrder", fn := fun _ => fun
  | [d1, d2] => { results := [.lit (.bool true)], args := [d1, d2] }
  | _ => none }
def ipcOrderRow : OpenClaim := { program := "ytepdekambalmhaa", sum := "3b6a60d648c9bd7e5e304ef4fd916fb2b62dd3e178bb6c227b0d58d5c64e622d", func := "steadfast/steadfastlaw20.IpcOrder", spec := "ipcOrder", unfollowed := true, recurses := true, apart := false }
def IpcOrderSaid : Prop := ipcOrderRow.holds Try.pinned (OpenSpec.ofChange ipcOrderSpec)

/-- ITS FALSE NEIGHBOUR: 'it returns false'. Refute it at one input. -/
def ipcOrderWrong : ChangeSpec := { name := "ipcOrder", fn := fun _ => fun
  | [d1, d2] => { results := [.lit (.bool false)], args := [d1, d2] }
  | _ => none }
def IpcOrderWrongFalsely : Prop := ipcOrderRow.holds Try.pinned (OpenSpec.ofChange ipcOrderWrong)

/-- 'steadfastlaw20.IpcHalves': WHATEVER THE INPUT: true; the input reads as it did. -/
def ipcHalvesSpec : ChangeSpec := { name := "ipcHalves", fn := fun _ => fun
  | [d1, d2, d3] => { results := [.lit (.bool true)], args := [d1, d2, d3] }
  | _ => none }
def ipcHalvesRow : OpenClaim := { program := "ytepdekambalmhaa", sum := "3b6a60d648c9bd7e5e304ef4fd916fb2b62dd3e178bb6c227b0d58d5c64e622d", func := "steadfast/steadfastlaw20.IpcHalves", spec := "ipcHalves", unfollowed := true, recurses := true, apart := false }
def IpcHalvesSaid : Prop := ipcHalvesRow.holds Try.pinned (OpenSpec.ofChange ipcHalvesSpec)

/-- ITS FALSE NEIGHBOUR: 'it returns false'. Refute it at one input. -/
def ipcHalvesWrong : ChangeSpec := { name := "ipcHalves", fn := fun _ => fun
  | [d1, d2, d3] => { results := [.lit (.bool false)], args := [d1, d2, d3] }
  | _ => none }
def IpcHalvesWrongFalsely : Prop := ipcHalvesRow.holds Try.pinned (OpenSpec.ofChange ipcHalvesWrong)

/- THE SECOND FORM. 'bulk': how many values and letters a reading holds, each counted each time it is reached (what is shared counts as often as it is met; a slice's spare places count too). A statement '..UptoSaid' is the law's where the arguments, and the package variables that the reading takes, are together of bulk at most 1048576: NARROWER than '..Said'. Prove '..Said' where nothing that the law and all that it calls make is longer than what came in: it says more and counts as full. Else prove '..UptoSaid'. A law counts once. -/
mutual
def uptoBulk {H : Type} : DataW H → Nat
  | .lit (.string bytes) => bytes.length + 1
  | .lit _ => 1
  | .nil => 1
  | .ptr d => uptoBulk d + 1
  | .slice elems spare => uptoBulkAll elems + uptoBulkAll spare + 1
  | .agg parts => uptoBulkAll parts + 1
  | .iface _ d => uptoBulk d + 1
  | .map entries => uptoBulkEntries entries + 1
  | .held _ => 1
def uptoBulkAll {H : Type} : List (DataW H) → Nat
  | [] => 0
  | d :: r => uptoBulk d + uptoBulkAll r
def uptoBulkEntries {H : Type} : List (Lit × DataW H) → Nat
  | [] => 0
  | x :: r => uptoBulkEntry x + uptoBulkEntries r
def uptoBulkEntry {H : Type} : Lit × DataW H → Nat
  | (.string bytes, d) => bytes.length + uptoBulk d + 1
  | (_, d) => uptoBulk d + 1
 end
def uptoSmall : (H : Type) → List (DataW H) → Bool := fun _ ds => decide (uptoBulkAll ds ≤ 1048576)
def OpenSpec.upto (s : _root_.Go.ChangeSpec) : _root_.Go.OpenSpec := { _root_.Go.OpenSpec.ofChange s with cond := some uptoSmall }

/-- 'steadfastlaw20.IpcLines', WHERE WHAT IT READS IS OF BULK AT MOST 1048576: true; the input reads as it did. -/
def ipcLinesUptoRow : OpenClaim := { program := "ytepdekambalmhaa", sum := "3b6a60d648c9bd7e5e304ef4fd916fb2b62dd3e178bb6c227b0d58d5c64e622d", func := "steadfast/steadfastlaw20.IpcLines", spec := "ipcLines", unfollowed := true, recurses := true, apart := false, narrowed := true }
def IpcLinesUptoSaid : Prop := ipcLinesUptoRow.holds Try.pinned (OpenSpec.upto ipcLinesSpec)

/-- 'steadfastlaw20.IpcWaits', WHERE WHAT IT READS IS OF BULK AT MOST 1048576: true; the input reads as it did. -/
def ipcWaitsUptoRow : OpenClaim := { program := "ytepdekambalmhaa", sum := "3b6a60d648c9bd7e5e304ef4fd916fb2b62dd3e178bb6c227b0d58d5c64e622d", func := "steadfast/steadfastlaw20.IpcWaits", spec := "ipcWaits", unfollowed := true, recurses := true, apart := false, narrowed := true }
def IpcWaitsUptoSaid : Prop := ipcWaitsUptoRow.holds Try.pinned (OpenSpec.upto ipcWaitsSpec)

/-- 'steadfastlaw20.IpcOrder', WHERE WHAT IT READS IS OF BULK AT MOST 1048576: true; the input reads as it did. -/
def ipcOrderUptoRow : OpenClaim := { program := "ytepdekambalmhaa", sum := "3b6a60d648c9bd7e5e304ef4fd916fb2b62dd3e178bb6c227b0d58d5c64e622d", func := "steadfast/steadfastlaw20.IpcOrder", spec := "ipcOrder", unfollowed := true, recurses := true, apart := false, narrowed := true }
def IpcOrderUptoSaid : Prop := ipcOrderUptoRow.holds Try.pinned (OpenSpec.upto ipcOrderSpec)

/-- 'steadfastlaw20.IpcHalves', WHERE WHAT IT READS IS OF BULK AT MOST 1048576: true; the input reads as it did. -/
def ipcHalvesUptoRow : OpenClaim := { program := "ytepdekambalmhaa", sum := "3b6a60d648c9bd7e5e304ef4fd916fb2b62dd3e178bb6c227b0d58d5c64e622d", func := "steadfast/steadfastlaw20.IpcHalves", spec := "ipcHalves", unfollowed := true, recurses := true, apart := false, narrowed := true }
def IpcHalvesUptoSaid : Prop := ipcHalvesUptoRow.holds Try.pinned (OpenSpec.upto ipcHalvesSpec)

end Rows
end Go.Proofs.Ytepdekambalmhaa

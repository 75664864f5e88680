/-
  No cell of these rows narrows 'for every input' (looked for: loops, veiled, ifaces, maps, wideKeys, modest, calm, conditions, laid).
  DERIVED. THE GIVEN ROWS OF THIS SEAT. 9 by the template 'for every input the law returns true; each argument reads behind the call as it read before'; 0 by the template 'total and deterministic' (their statements: YthgagehgiooklaaTotals.lean).
  GIVEN WITH THE SEED: the statements are not yours to turn. If you find one false, say at which input.
  Laid BY PROGRAM, IN A SANDBOX (cutbox-rows.mjs): the forced cells as the released guide's own fill.sh prints them over the translation ef11cc9cef77b8c4… (all of the seat's roots in one cut). By AI agents, Wed Nov 11 2026. No macro, syntax, notation, axiom, sorry.
-/
import Derived.Test.YthgagehgiooklaaChecked
import GoSem.Claim
import GoSem.ClaimJoined
import GoSem.ClaimMapViews
import Derived.JoinedTies
import Derived.KernelRfl
namespace Go.Proofs.Ythgagehgiooklaa
/- THE CELL 'sum', in the pinned program and in every row, IS THE sha256 OF THE DUMP (.gsa) THAT YthgagehgiooklaaProg.lean LOADS. Nothing in Lean hashes anything: it is a label: what it is worth is what the hold of that sum in a sandbox is worth. -/
noncomputable def Try.pinned : Pinned := { name := "ythgagehgiooklaa", sum := "ef11cc9cef77b8c4c28521867e85887910312c69feb3e16b1dc49861e76c609e", checked := Try.checked }
namespace Rows
def none {H : Type} : Left H := { results := [], args := [] }

/-- 'steadfastlaw03.NvmFenced': WHATEVER THE INPUT: true; the input reads as it did. -/
def nvmFencedSpec : ChangeSpec := { name := "nvmFenced", fn := fun _ => fun
  | [d1, d2, d3] => { results := [.lit (.bool true)], args := [d1, d2, d3] }
  | _ => none }
def nvmFencedRow : OpenClaim := { program := "ythgagehgiooklaa", sum := "ef11cc9cef77b8c4c28521867e85887910312c69feb3e16b1dc49861e76c609e", func := "steadfast/steadfastlaw03.NvmFenced", spec := "nvmFenced", unfollowed := true, recurses := true, apart := false }
def NvmFencedSaid : Prop := nvmFencedRow.holds Try.pinned (OpenSpec.ofChange nvmFencedSpec)

/-- ITS FALSE NEIGHBOUR: 'it returns false'. Refute it at one input. -/
def nvmFencedWrong : ChangeSpec := { name := "nvmFenced", fn := fun _ => fun
  | [d1, d2, d3] => { results := [.lit (.bool false)], args := [d1, d2, d3] }
  | _ => none }
def NvmFencedWrongFalsely : Prop := nvmFencedRow.holds Try.pinned (OpenSpec.ofChange nvmFencedWrong)

/-- 'steadfastlaw03.NvmCores': WHATEVER THE INPUT: true; the input reads as it did. -/
def nvmCoresSpec : ChangeSpec := { name := "nvmCores", fn := fun _ => fun
  | [d1, d2, d3] => { results := [.lit (.bool true)], args := [d1, d2, d3] }
  | _ => none }
def nvmCoresRow : OpenClaim := { program := "ythgagehgiooklaa", sum := "ef11cc9cef77b8c4c28521867e85887910312c69feb3e16b1dc49861e76c609e", func := "steadfast/steadfastlaw03.NvmCores", spec := "nvmCores", unfollowed := true, recurses := true, apart := false }
def NvmCoresSaid : Prop := nvmCoresRow.holds Try.pinned (OpenSpec.ofChange nvmCoresSpec)

/-- ITS FALSE NEIGHBOUR: 'it returns false'. Refute it at one input. -/
def nvmCoresWrong : ChangeSpec := { name := "nvmCores", fn := fun _ => fun
  | [d1, d2, d3] => { results := [.lit (.bool false)], args := [d1, d2, d3] }
  | _ => none }
def NvmCoresWrongFalsely : Prop := nvmCoresRow.holds Try.pinned (OpenSpec.ofChange nvmCoresWrong)

/-- 'steadfastlaw03.NvmFuses': WHATEVER THE INPUT: true; the input reads as it did. -/
def nvmFusesSpec : ChangeSpec := { name := "nvmFuses", fn := fun _ => fun
  | [d1, d2] => { results := [.lit (.bool true)], args := [d1, d2] }
  | _ => none }
def nvmFusesRow : OpenClaim := { program := "ythgagehgiooklaa", sum := "ef11cc9cef77b8c4c28521867e85887910312c69feb3e16b1dc49861e76c609e", func := "steadfast/steadfastlaw03.NvmFuses", spec := "nvmFuses", unfollowed := true, recurses := true, apart := false }
def NvmFusesSaid : Prop := nvmFusesRow.holds Try.pinned (OpenSpec.ofChange nvmFusesSpec)

/-- ITS FALSE NEIGHBOUR: 'it returns false'. Refute it at one input. -/
def nvmFusesWrong : ChangeSpec := { name := "nvmFuses", fn := fun _ => fun
  | [d1, d2] => { results := [.lit (.bool false)], args := [d1, d2] }
  | _ => none }
def NvmFusesWrongFalsely : Prop := nvmFusesRow.holds Try.pinned (OpenSpec.ofChange nvmFusesWrong)

/-- 'steadfastlaw03.NvmSure': WHATEVER THE INPUT: true; the input reads as it did. -/
def nvmSureSpec : ChangeSpec := { name := "nvmSure", fn := fun _ => fun
  | [d1, d2] => { results := [.lit (.bool true)], args := [d1, d2] }
  | _ => none }
def nvmSureRow : OpenClaim := { program := "ythgagehgiooklaa", sum := "ef11cc9cef77b8c4c28521867e85887910312c69feb3e16b1dc49861e76c609e", func := "steadfast/steadfastlaw03.NvmSure", spec := "nvmSure", unfollowed := true, recurses := true, apart := false }
def NvmSureSaid : Prop := nvmSureRow.holds Try.pinned (OpenSpec.ofChange nvmSureSpec)

/-- ITS FALSE NEIGHBOUR: 'it returns false'. Refute it at one input. -/
def nvmSureWrong : ChangeSpec := { name := "nvmSure", fn := fun _ => fun
  | [d1, d2] => { results := [.lit (.bool false)], args := [d1, d2] }
  | _ => none }
def NvmSureWrongFalsely : Prop := nvmSureRow.holds Try.pinned (OpenSpec.ofChange nvmSureWrong)

/-- 'steadfastlaw03.NvmLast': WHATEVER THE INPUT: true; the input reads as it did. -/
def nvmLastSpec : ChangeSpec := { name := "nvmLast", fn := fun _ => fun
  | [d] => { results := [.lit (.bool true)], args := [d] }
  | _ => none }
def nvmLastRow : OpenClaim := { program := "ythgagehgiooklaa", sum := "ef11cc9cef77b8c4c28521867e85887910312c69feb3e16b1dc49861e76c609e", func := "steadfast/steadfastlaw03.NvmLast", spec := "nvmLast", unfollowed := true, recurses := true, apart := false }
def NvmLastSaid : Prop := nvmLastRow.holds Try.pinned (OpenSpec.ofChange nvmLastSpec)

/-- ITS FALSE NEIGHBOUR: 'it returns false'. Refute it at one input. -/
def nvmLastWrong : ChangeSpec := { name := "nvmLast", fn := fun _ => fun
  | [d] => { results := [.lit (.bool false)], args := [d] }
  | _ => none }
def NvmLastWrongFalsely : Prop := nvmLastRow.holds Try.pinned (OpenSpec.ofChange nvmLastWrong)

/-- 'steadfastlaw03.NvmApart': WHATEVER THE INPUT: true; the input reads as it did. -/
def nvmApartSpec : ChangeSpec := { name := "nvmApart", fn := fun _ => fun
  | [d1, d2] => { results := [.lit (.bool true)], args := [d1, d2] }
  | _ => none }
def nvmApartRow : OpenClaim := { program := "ythgagehgiooklaa", sum := "ef11cc9cef77b8c4c28521867e85887910312c69feb3e16b1dc49861e76c609e", func := "steadfast/steadfastlaw03.NvmApart", spec := "nvmApart", unfollowed := true, recurses := true, apart := false }
def NvmApartSaid : Prop := nvmApartRow.holds Try.pinned (OpenSpec.ofChange nvmApartSpec)

/-- ITS FALSE NEIGHBOUR: 'it returns false'. Refute it at one input. -/
def nvmApartWrong : ChangeSpec := { name := "nvmApart", fn := fun _ => fun
  | [d1, d2] => { results := [.lit (.bool false)], args := [d1, d2] }
  | _ => none }
def NvmApartWrongFalsely : Prop := nvmApartRow.holds Try.pinned (OpenSpec.ofChange nvmApartWrong)

/-- 'steadfastlaw03.NvmEvicts': WHATEVER THE INPUT: true; the input reads as it did. -/
def nvmEvictsSpec : ChangeSpec := { name := "nvmEvicts", fn := fun _ => fun
  | [d1, d2] => { results := [.lit (.bool true)], args := [d1, d2] }
  | _ => none }
def nvmEvictsRow : OpenClaim := { program := "ythgagehgiooklaa", sum := "ef11cc9cef77b8c4c28521867e85887910312c69feb3e16b1dc49861e76c609e", func := "steadfast/steadfastlaw03.NvmEvicts", spec := "nvmEvicts", unfollowed := true, recurses := true, apart := false }
def NvmEvictsSaid : Prop := nvmEvictsRow.holds Try.pinned (OpenSpec.ofChange nvmEvictsSpec)

/-- ITS FALSE NEIGHBOUR: 'it returns false'. Refute it at one input. -/
def nvmEvictsWrong : ChangeSpec := { name := "nvmEvicts", fn := fun _ => fun
  | [d1, d2] => { results := [.lit (.bool false)], args := [d1, d2] }
  | _ => none }
def NvmEvictsWrongFalsely : Prop := nvmEvictsRow.holds Try.pinned (OpenSpec.ofChange nvmEvictsWrong)

/-- 'steadfastlaw03.NvmOf': WHATEVER THE INPUT: true; the input reads as it did. -/
def nvmOfSpec : ChangeSpec := { name := "nvmOf", fn := fun _ => fun
  | [d] => { results := [.lit (.bool true)], args := [d] }
  | _ => none }
def nvmOfRow : OpenClaim := { program := "ythgagehgiooklaa", sum := "ef11cc9cef77b8c4c28521867e85887910312c69feb3e16b1dc49861e76c609e", func := "steadfast/steadfastlaw03.NvmOf", spec := "nvmOf", unfollowed := true, recurses := true, apart := false }
def NvmOfSaid : Prop := nvmOfRow.holds Try.pinned (OpenSpec.ofChange nvmOfSpec)

/-- ITS FALSE NEIGHBOUR: 'it returns false'. Refute it at one input. -/
def nvmOfWrong : ChangeSpec := { name := "nvmOf", fn := fun _ => fun
  | [d] => { results := [.lit (.bool false)], args := [d] }
  | _ => none }
def NvmOfWrongFalsely : Prop := nvmOfRow.holds Try.pinned (OpenSpec.ofChange nvmOfWrong)

/-- 'steadfastlaw03.NvmPlays': WHATEVER THE INPUT: true; the input reads as it did. -/
def nvmPlaysSpec : ChangeSpec := { name := "nvmPlays", fn := fun _ => fun
  | [d1, d2] => { results := [.lit (.bool true)], args := [d1, d2] }
  | _ => none }
def nvmPlaysRow : OpenClaim := { program := "ythgagehgiooklaa", sum := "ef11cc9cef77b8c4c28521867e85887910312c69feb3e16b1dc49861e76c609e", func := "steadfast/steadfastlaw03.NvmPlays", spec := "nvmPlays", unfollowed := true, recurses := true, apart := false }
def NvmPlaysSaid : Prop := nvmPlaysRow.holds Try.pinned (OpenSpec.ofChange nvmPlaysSpec)

/-- ITS FALSE NEIGHBOUR: 'it returns false'. Refute it at one input. -/
def nvmPlaysWrong : ChangeSpec := { name := "nvmPlays", fn := fun _ => fun
  | [d1, d2] => { results := [.lit (.bool false)], args := [d1, d2] }
  | _ => none }
def NvmPlaysWrongFalsely : Prop := nvmPlaysRow.holds Try.pinned (OpenSpec.ofChange nvmPlaysWrong)

/- THE SECOND FORM. 'bulk': how many values and letters a reading holds, each counted each time it is reached (what is shared counts as often as it is met; a slice's spare places count too). A statement '..UptoSaid' is the law's where the arguments, and the package variables that the reading takes, are together of bulk at most 1048576: NARROWER than '..Said'. Prove '..Said' where nothing that the law and all that it calls make is longer than what came in: it says more and counts as full. Else prove '..UptoSaid'. A law counts once. -/
mutual
def uptoBulk {H : Type} : DataW H → Nat
  | .lit (.string bytes) => bytes.length + 1
  | .lit _ => 1
  | .nil => 1
  | .ptr d => uptoBulk d + 1
  | .slice elems spare => uptoBulkAll elems + uptoBulkAll spare + 1
  | .agg parts => uptoBulkAll parts + 1
  | .iface _ d => uptoBulk d + 1
  | .map entries => uptoBulkEntries entries + 1
  | .held _ => 1
def uptoBulkAll {H : Type} : List (DataW H) → Nat
  | [] => 0
  | d :: r => uptoBulk d + uptoBulkAll r
def uptoBulkEntries {H : Type} : List (Lit × DataW H) → Nat
  | [] => 0
  | x :: r => uptoBulkEntry x + uptoBulkEntries r
def uptoBulkEntry {H : Type} : Lit × DataW H → Nat
  | (.string bytes, d) => bytes.length + uptoBulk d + 1
  | (_, d) => uptoBulk d + 1
 end
def uptoSmall : (H : Type) → List (DataW H) → Bool := fun _ ds => decide (uptoBulkAll ds ≤ 1048576)
def OpenSpec.upto (s : _root_.Go.ChangeSpec) : _root_.Go.OpenSpec := { _root_.Go.OpenSpec.ofChange s with cond := some uptoSmall }

/-- 'steadfastlaw03.NvmFenced', WHERE WHAT IT READS IS OF BULK AT MOST 1048576: true; the input reads as it did. -/
def nvmFencedUptoRow : OpenClaim := { program := "ythgagehgiooklaa", sum := "ef11cc9cef77b8c4c28521867e85887910312c69feb3e16b1dc49861e76c609e", func := "steadfast/steadfastlaw03.NvmFenced", spec := "nvmFenced", unfollowed := true, recurses := true, apart := false, narrowed := true }
def NvmFencedUptoSaid : Prop := nvmFencedUptoRow.holds Try.pinned (OpenSpec.upto nvmFencedSpec)

/-- 'steadfastlaw03.NvmCores', WHERE WHAT IT READS IS OF BULK AT MOST 1048576: true; the input reads as it did. -/
def nvmCoresUptoRow : OpenClaim := { program := "ythgagehgiooklaa", sum := "ef11cc9cef77b8c4c28521867e85887910312c69feb3e16b1dc49861e76c609e", func := "steadfast/steadfastlaw03.NvmCores", spec := "nvmCores", unfollowed := true, recurses := true, apart := false, narrowed := true }
def NvmCoresUptoSaid : Prop := nvmCoresUptoRow.holds Try.pinned (OpenSpec.upto nvmCoresSpec)

/-- 'steadfastlaw03.NvmFuses', WHERE WHAT IT READS IS OF BULK AT MOST 1048576: true; the input reads as it did. -/
def nvmFusesUptoRow : OpenClaim := { program := "ythgagehgiooklaa", sum := "ef11cc9cef77b8c4c28521867e85887910312c69feb3e16b1dc49861e76c609e", func := "steadfast/steadfastlaw03.NvmFuses", spec := "nvmFuses", unfollowed := true, recurses := true, apart := false, narrowed := true }
def NvmFusesUptoSaid : Prop := nvmFusesUptoRow.holds Try.pinned (OpenSpec.upto nvmFusesSpec)

/-- 'steadfastlaw03.NvmSure', WHERE WHAT IT READS IS OF BULK AT MOST 1048576: true; the input reads as it did. -/
def nvmSureUptoRow : OpenClaim := { program := "ythgagehgiooklaa", sum := "ef11cc9cef77b8c4c28521867e85887910312c69feb3e16b1dc49861e76c609e", func := "steadfast/steadfastlaw03.NvmSure", spec := "nvmSure", unfollowed := true, recurses := true, apart := false, narrowed := true }
def NvmSureUptoSaid : Prop := nvmSureUptoRow.holds Try.pinned (OpenSpec.upto nvmSureSpec)

/-- 'steadfastlaw03.NvmLast', WHERE WHAT IT READS IS OF BULK AT MOST 1048576: true; the input reads as it did. -/
def nvmLastUptoRow : OpenClaim := { program := "ythgagehgiooklaa", sum := "ef11cc9cef77b8c4c28521867e85887910312c69feb3e16b1dc49861e76c609e", func := "steadfast/steadfastlaw03.NvmLast", spec := "nvmLast", unfollowed := true, recurses := true, apart := false, narrowed := true }
def NvmLastUptoSaid : Prop := nvmLastUptoRow.holds Try.pinned (OpenSpec.upto nvmLastSpec)

/-- 'steadfastlaw03.NvmApart', WHERE WHAT IT READS IS OF BULK AT MOST 1048576: true; the input reads as it did. -/
def nvmApartUptoRow : OpenClaim := { program := "ythgagehgiooklaa", sum := "ef11cc9cef77b8c4c28521867e85887910312c69feb3e16b1dc49861e76c609e", func := "steadfast/steadfastlaw03.NvmApart", spec := "nvmApart", unfollowed := true, recurses := true, apart := false, narrowed := true }
def NvmApartUptoSaid : Prop := nvmApartUptoRow.holds Try.pinned (OpenSpec.upto nvmApartSpec)

/-- 'steadfastlaw03.NvmEvicts', WHERE WHAT IT READS IS OF BULK AT MOST 1048576: true; the input reads as it did. -/
def nvmEvictsUptoRow : OpenClaim := { program := "ythgagehgiooklaa", sum := "ef11cc9cef77b8c4c28521867e85887910312c69feb3e16b1dc49861e76c609e", func := "steadfast/steadfastlaw03.NvmEvicts", spec := "nvmEvicts", unfollowed := true, recurses := true, apart := false, narrowed := true }
def NvmEvictsUptoSaid : Prop := nvmEvictsUptoRow.holds Try.pinned (OpenSpec.upto nvmEvictsSpec)

/-- 'steadfastlaw03.NvmOf', WHERE WHAT IT READS IS OF BULK AT MOST 1048576: true; the input reads as it did. -/
def nvmOfUptoRow : OpenClaim := { program := "ythgagehgiooklaa", sum := "ef11cc9cef77b8c4c28521867e85887910312c69feb3e16b1dc49861e76c609e", func := "steadfast/steadfastlaw03.NvmOf", spec := "nvmOf", unfollowed := true, recurses := true, apart := false, narrowed := true }
def NvmOfUptoSaid : Prop := nvmOfUptoRow.holds Try.pinned (OpenSpec.upto nvmOfSpec)

/-- 'steadfastlaw03.NvmPlays', WHERE WHAT IT READS IS OF BULK AT MOST 1048576: true; the input reads as it did. -/
def nvmPlaysUptoRow : OpenClaim := { program := "ythgagehgiooklaa", sum := "ef11cc9cef77b8c4c28521867e85887910312c69feb3e16b1dc49861e76c609e", func := "steadfast/steadfastlaw03.NvmPlays", spec := "nvmPlays", unfollowed := true, recurses := true, apart := false, narrowed := true }
def NvmPlaysUptoSaid : Prop := nvmPlaysUptoRow.holds Try.pinned (OpenSpec.upto nvmPlaysSpec)

end Rows
end Go.Proofs.Ythgagehgiooklaa

/-
  No cell of these rows narrows 'for every input' (looked for: loops, veiled, ifaces, maps, wideKeys, modest, calm, conditions, laid).
  DERIVED. THE GIVEN ROWS OF THIS SEAT. 4 by the template 'for every input the law returns true; each argument reads behind the call as it read before'; 0 by the template 'total and deterministic' (their statements: YtpllgemflpnioaaTotals.lean).
  GIVEN WITH THE SEED: the statements are not yours to turn. If you find one false, say at which input.
  Laid BY PROGRAM, IN A SANDBOX (cutbox-rows.mjs): the forced cells as the released guide's own fill.sh prints them over the translation 1c499fcbab874404… (all of the seat's roots in one cut). By AI agents, Wed Nov 11 2026. No macro, syntax, notation, axiom, sorry.
-/
import Derived.Test.YtpllgemflpnioaaChecked
import GoSem.Claim
import GoSem.ClaimJoined
import GoSem.ClaimMapViews
import Derived.JoinedTies
import Derived.KernelRfl
namespace Go.Proofs.Ytpllgemflpnioaa
/- THE CELL 'sum', in the pinned program and in every row, IS THE sha256 OF THE DUMP (.gsa) THAT YtpllgemflpnioaaProg.lean LOADS. Nothing in Lean hashes anything: it is a label: what it is worth is what the hold of that sum in a sandbox is worth. -/
noncomputable def Try.pinned : Pinned := { name := "ytpllgemflpnioaa", sum := "1c499fcbab8744049a03e57e78939071cc44d3e4207078db8b8bb2df446a8fac", checked := Try.checked }
namespace Rows
def none {H : Type} : Left H := { results := [], args := [] }

/-- 'steadfastlaw14.RegsLines': WHATEVER THE INPUT: true; the input reads as it did. -/
def regsLinesSpec : ChangeSpec := { name := "regsLines", fn := fun _ => fun
  | [d1, d2] => { results := [.lit (.bool true)], args := [d1, d2] }
  | _ => none }
def regsLinesRow : OpenClaim := { program := "ytpllgemflpnioaa", sum := "1c499fcbab8744049a03e57e78939071cc44d3e4207078db8b8bb2df446a8fac", func := "steadfast/steadfastlaw14.RegsLines", spec := "regsLines", unfollowed := true, recurses := true, apart := false }
def RegsLinesSaid : Prop := regsLinesRow.holds Try.pinned (OpenSpec.ofChange regsLinesSpec)

/-- ITS FALSE NEIGHBOUR: 'it returns false'. Refute it at one input. -/
def regsLinesWrong : ChangeSpec := { name := "regsLines", fn := fun _ => fun
  | [d1, d2] => { results := [.lit (.bool false)], args := [d1, d2] }
  | _ => none }
def RegsLinesWrongFalsely : Prop := regsLinesRow.holds Try.pinned (OpenSpec.ofChange regsLinesWrong)

/-- 'steadfastlaw14.RegsBack': WHATEVER THE INPUT: true; the input reads as it did. -/
def regsBackSpec : ChangeSpec := { name := "regsBack", fn := fun _ => fun
  | [d1, d2] => { results := [.lit (.bool true)], args := [d1, d2] }
  | _ => none }
def regsBackRow : OpenClaim := { program := "ytpllgemflpnioaa", sum := "1c499fcbab8744049a03e57e78939071cc44d3e4207078db8b8bb2df446a8fac", func := "steadfast/steadfastlaw14.RegsBack", spec := "regsBack", unfollowed := true, recurses := true, apart := false }
def RegsBackSaid : Prop := regsBackRow.holds Try.pinned (OpenSpec.ofChange regsBackSpec)

/-- ITS FALSE NEIGHBOUR: 'it returns false'. Refute it at one input. -/
def regsBackWrong : ChangeSpec := { name := "regsBack", fn := fun _ => fun
  | [d1, d2] => { results := [.lit (.bool false)], args := [d1, d2] }
  | _ => none }
def RegsBackWrongFalsely : Prop := regsBackRow.holds Try.pinned (OpenSpec.ofChange regsBackWrong)

/-- 'steadfastlaw14.RegsApart': WHATEVER THE INPUT: true; the input reads as it did. -/
def regsApartSpec : ChangeSpec := { name := "regsApart", fn := fun _ => fun
  | [d1, d2] => { results := [.lit (.bool true)], args := [d1, d2] }
  | _ => none }
def regsApartRow : OpenClaim := { program := "ytpllgemflpnioaa", sum := "1c499fcbab8744049a03e57e78939071cc44d3e4207078db8b8bb2df446a8fac", func := "steadfast/steadfastlaw14.RegsApart", spec := "regsApart", unfollowed := true, recurses := true, apart := false }
def RegsApartSaid : Prop := regsApartRow.holds Try.pinned (OpenSpec.ofChange regsApartSpec)

/-- ITS FALSE NEIGHBOUR: 'it returns false'. Refute it at one input. -/
def regsApartWrong : ChangeSpec := { name := "regsApart", fn := fun _ => fun
  | [d1, d2] => { results := [.lit (.bool false)], args := [d1, d2] }
  | _ => none }
def RegsApartWrongFalsely : Prop := regsApartRow.holds Try.pinned (OpenSpec.ofChange regsApartWrong)

/-- 'steadfastlaw14.RegsDiffer': WHATEVER THE INPUT: true; the input reads as it did. -/
def regsDifferSpec : ChangeSpec := { name := "regsDiffer", fn := fun _ => fun
  | [d1, d2] => { results := [.lit (.bool true)], args := [d1, d2] }
  | _ => none }
def regsDifferRow : OpenClaim := { program := "ytpllgemflpnioaa", sum := "1c499fcbab8744049a03e57e78939071cc44d3e4207078db8b8bb2df446a8fac", func := "steadfast/steadfastlaw14.RegsDiffer", spec := "regsDiffer", unfollowed := true, recurses := true, apart := false }
def RegsDifferSaid : Prop := regsDifferRow.holds Try.pinned (OpenSpec.ofChange regsDifferSpec)

/-- ITS FALSE NEIGHBOUR: 'it returns false'. Refute it at one input. -/
def regsDifferWrong : ChangeSpec := { name := "regsDiffer", fn := fun _ => fun
  | [d1, d2] => { results := [.lit (.bool false)], args := [d1, d2] }
  | _ => none }
def RegsDifferWrongFalsely : Prop := regsDifferRow.holds Try.pinned (OpenSpec.ofChange regsDifferWrong)

/- THE SECOND FORM. 'bulk': how many values and letters a reading holds, each counted each time it is reached (what is shared counts as often as it is met; a slice's spare places count too). A statement '..UptoSaid' is the law's where the arguments, and the package variables that the reading takes, are together of bulk at most 1048576: NARROWER than '..Said'. Prove '..Said' where nothing that the law and all that it calls make is longer than what came in: it says more and counts as full. Else prove '..UptoSaid'. A law counts once. -/
mutual
def uptoBulk {H : Type} : DataW H → Nat
  | .lit (.string bytes) => bytes.length + 1
  | .lit _ => 1
  | .nil => 1
  | .ptr d => uptoBulk d + 1
  | .slice elems spare => uptoBulkAll elems + uptoBulkAll spare + 1
  | .agg parts => uptoBulkAll parts + 1
  | .iface _ d => uptoBulk d + 1
  | .map entries => uptoBulkEntries entries + 1
  | .held _ => 1
def uptoBulkAll {H : Type} : List (DataW H) → Nat
  | [] => 0
  | d :: r => uptoBulk d + uptoBulkAll r
def uptoBulkEntries {H : Type} : List (Lit × DataW H) → Nat
  | [] => 0
  | x :: r => uptoBulkEntry x + uptoBulkEntries r
def uptoBulkEntry {H : Type} : Lit × DataW H → Nat
  | (.string bytes, d) => bytes.length + uptoBulk d + 1
  | (_, d) => uptoBulk d + 1
 end
def uptoSmall : (H : Type) → List (DataW H) → Bool := fun _ ds => decide (uptoBulkAll ds ≤ 1048576)
def OpenSpec.upto (s : _root_.Go.ChangeSpec) : _root_.Go.OpenSpec := { _root_.Go.OpenSpec.ofChange s with cond := some uptoSmall }

/-- 'steadfastlaw14.RegsLines', WHERE WHAT IT READS IS OF BULK AT MOST 1048576: true; the input reads as it did. -/
def regsLinesUptoRow : OpenClaim := { program := "ytpllgemflpnioaa", sum := "1c499fcbab8744049a03e57e78939071cc44d3e4207078db8b8bb2df446a8fac", func := "steadfast/steadfastlaw14.RegsLines", spec := "regsLines", unfollowed := true, recurses := true, apart := false, narrowed := true }
def RegsLinesUptoSaid : Prop := regsLinesUptoRow.holds Try.pinned (OpenSpec.upto regsLinesSpec)

/-- 'steadfastlaw14.RegsBack', WHERE WHAT IT READS IS OF BULK AT MOST 1048576: true; the input reads as it did. -/
def regsBackUptoRow : OpenClaim := { program := "ytpllgemflpnioaa", sum := "1c499fcbab8744049a03e57e78939071cc44d3e4207078db8b8bb2df446a8fac", func := "steadfast/steadfastlaw14.RegsBack", spec := "regsBack", unfollowed := true, recurses := true, apart := false, narrowed := true }
def RegsBackUptoSaid : Prop := regsBackUptoRow.holds Try.pinned (OpenSpec.upto regsBackSpec)

/-- 'steadfastlaw14.RegsApart', WHERE WHAT IT READS IS OF BULK AT MOST 1048576: true; the input reads as it did. -/
def regsApartUptoRow : OpenClaim := { program := "ytpllgemflpnioaa", sum := "1c499fcbab8744049a03e57e78939071cc44d3e4207078db8b8bb2df446a8fac", func := "steadfast/steadfastlaw14.RegsApart", spec := "regsApart", unfollowed := true, recurses := true, apart := false, narrowed := true }
def RegsApartUptoSaid : Prop := regsApartUptoRow.holds Try.pinned (OpenSpec.upto regsApartSpec)

/-- 'steadfastlaw14.RegsDiffer', WHERE WHAT IT READS IS OF BULK AT MOST 1048576: true; the input reads as it did. -/
def regsDifferUptoRow : OpenClaim := { program := "ytpllgemflpnioaa", sum := "1c499fcbab8744049a03e57e78939071cc44d3e4207078db8b8bb2df446a8fac", func := "steadfast/steadfastlaw14.RegsDiffer", spec := "regsDiffer", unfollowed := true, recurses := true, apart := false, narrowed := true }
def RegsDifferUptoSaid : Prop := regsDifferUptoRow.holds Try.pinned (OpenSpec.upto regsDifferSpec)

end Rows
end Go.Proofs.Ytpllgemflpnioaa

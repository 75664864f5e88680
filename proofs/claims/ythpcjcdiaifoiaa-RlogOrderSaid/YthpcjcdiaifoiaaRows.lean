/-
  No cell of these rows narrows 'for every input' (looked for: loops, veiled, ifaces, maps, wideKeys, modest, calm, conditions, laid).
  DERIVED. THE GIVEN ROWS OF THIS SEAT. 8 by the template 'for every input the law returns true; each argument reads behind the call as it read before'; 0 by the template 'total and deterministic' (their statements: YthpcjcdiaifoiaaTotals.lean).
  GIVEN WITH THE SEED: the statements are not yours to turn. If you find one false, say at which input.
  Laid BY PROGRAM, IN A SANDBOX (cutbox-rows.mjs): the forced cells as the released guide's own fill.sh prints them over the translation 1714d8ff075c28f3… (all of the seat's roots in one cut). By AI agents, Wed Nov 11 2026. No macro, syntax, notation, axiom, sorry.
-/
import Derived.Test.YthpcjcdiaifoiaaChecked
import GoSem.Claim
import GoSem.ClaimJoined
import GoSem.ClaimMapViews
import Derived.JoinedTies
import Derived.KernelRfl
namespace Go.Proofs.Ythpcjcdiaifoiaa
/- THE CELL 'sum', in the pinned program and in every row, IS THE sha256 OF THE DUMP (.gsa) THAT YthpcjcdiaifoiaaProg.lean LOADS. Nothing in Lean hashes anything: it is a label: what it is worth is what the hold of that sum in a sandbox is worth. -/
noncomputable def Try.pinned : Pinned := { name := "ythpcjcdiaifoiaa", sum := "1714d8ff075c28f3f167a99a5ddd0de968f113239b8c21ffa4dfa70e434e558b", checked := Try.checked }
namespace Rows
def none {H : Type} : Left H := { results := [], args := [] }

/-- 'steadfastlaw06.RlogLines': WHATEVER THE INPUT: true; the input reads as it did. -/
def rlogLinesSpec : ChangeSpec := { name := "rlogLines", fn := fun _ => fun
  | [d1, d2] => { results := [.lit (.bool true)], args := [d1, d2] }
  | _ => none }
def rlogLinesRow : OpenClaim := { program := "ythpcjcdiaifoiaa", sum := "1714d8ff075c28f3f167a99a5ddd0de968f113239b8c21ffa4dfa70e434e558b", func := "steadfast/steadfastlaw06.RlogLines", spec := "rlogLines", unfollowed := true, recurses := true, apart := false }
def RlogLinesSaid : Prop := rlogLinesRow.holds Try.pinned (OpenSpec.ofChange rlogLinesSpec)

/-- ITS FALSE NEIGHBOUR: 'it returns false'. Refute it at one input. -/
def rlogLinesWrong : ChangeSpec := { name := "rlogLines", fn := fun _ => fun
  | [d1, d2] => { results := [.lit (.bool false)], args := [d1, d2] }
  | _ => none }
def RlogLinesWrongFalsely : Prop := rlogLinesRow.holds Try.pinned (OpenSpec.ofChange rlogLinesWrong)

/-- 'steadfastlaw06.RlogAgain': WHATEVER THE INPUT: true; the input reads as it did. -/
def rlogAgainSpec : ChangeSpec := { name := "rlogAgain", fn := fun _ => fun
  | [d1, d2] => { results := [.lit (.bool true)], args := [d1, d2] }
  | _ => none }
def rlogAgainRow : OpenClaim := { program := "ythpcjcdiaifoiaa", sum := "1714d8ff075c28f3f167a99a5ddd0de968f113239b8c21ffa4dfa70e434e558b", func := "steadfast/steadfastlaw06.RlogAgain", spec := "rlogAgain", unfollowed := true, recurses := true, apart := false }
def RlogAgainSaid : Prop := rlogAgainRow.holds Try.pinned (OpenSpec.ofChange rlogAgainSpec)

/-- ITS FALSE NEIGHBOUR: 'it returns false'. Refute it at one input. -/
def rlogAgainWrong : ChangeSpec := { name := "rlogAgain", fn := fun _ => fun
  | [d1, d2] => { results := [.lit (.bool false)], args := [d1, d2] }
  | _ => none }
def RlogAgainWrongFalsely : Prop := rlogAgainRow.holds Try.pinned (OpenSpec.ofChange rlogAgainWrong)

/-- 'steadfastlaw06.RlogOrder': WHATEVER THE INPUT: true; the input reads as it did. -/
def rlogOrderSpec : ChangeSpec := { name := "rlogOrder", fn := fun _ => fun
  | [d1, d2] => { results := [.lit (.bool true)], args := [d1, d2] }
  | _ => none }
def rlogOrderRow : OpenClaim := { program := "ythpcjcdiaifoiaa", sum := "1714d8ff075c28f3f167a99a5ddd0de968f113239b8c21ffa4dfa70e434e558b", func := "steadfast/steadfastlaw06.RlogOrder", spec := "rlogOrder", unfollowed := true, recurses := true, apart := false }
def RlogOrderSaid : Prop := rlogOrderRow.holds Try.pinned (OpenSpec.ofChange rlogOrderSpec)

/-- ITS FALSE NEIGHBOUR: 'it returns false'. Refute it at one input. -/
def rlogOrderWrong : ChangeSpec := { name := "rlogOrder", fn := fun _ => fun
  | [d1, d2] => { results := [.lit (.bool false)], args := [d1, d2] }
  | _ => none }
def RlogOrderWrongFalsely : Prop := rlogOrderRow.holds Try.pinned (OpenSpec.ofChange rlogOrderWrong)

/-- 'steadfastlaw06.RlogApart': WHATEVER THE INPUT: true; the input reads as it did. -/
def rlogApartSpec : ChangeSpec := { name := "rlogApart", fn := fun _ => fun
  | [d] => { results := [.lit (.bool true)], args := [d] }
  | _ => none }
def rlogApartRow : OpenClaim := { program := "ythpcjcdiaifoiaa", sum := "1714d8ff075c28f3f167a99a5ddd0de968f113239b8c21ffa4dfa70e434e558b", func := "steadfast/steadfastlaw06.RlogApart", spec := "rlogApart", unfollowed := true, recurses := true, apart := false }
def RlogApartSaid : Prop := rlogApartRow.holds Try.pinned (OpenSpec.ofChange rlogApartSpec)

/-- ITS FALSE NEIGHBOUR: 'it returns false'. Refute it at one input. -/
def rlogApartWrong : ChangeSpec := { name := "rlogApart", fn := fun _ => fun
  | [d] => { results := [.lit (.bool false)], args := [d] }
  | _ => none }
def RlogApartWrongFalsely : Prop := rlogApartRow.holds Try.pinned (OpenSpec.ofChange rlogApartWrong)

/-- 'steadfastlaw06.RlogBack': WHATEVER THE INPUT: true; the input reads as it did. -/
def rlogBackSpec : ChangeSpec := { name := "rlogBack", fn := fun _ => fun
  | [d] => { results := [.lit (.bool true)], args := [d] }
  | _ => none }
def rlogBackRow : OpenClaim := { program := "ythpcjcdiaifoiaa", sum := "1714d8ff075c28f3f167a99a5ddd0de968f113239b8c21ffa4dfa70e434e558b", func := "steadfast/steadfastlaw06.RlogBack", spec := "rlogBack", unfollowed := true, recurses := true, apart := false }
def RlogBackSaid : Prop := rlogBackRow.holds Try.pinned (OpenSpec.ofChange rlogBackSpec)

/-- ITS FALSE NEIGHBOUR: 'it returns false'. Refute it at one input. -/
def rlogBackWrong : ChangeSpec := { name := "rlogBack", fn := fun _ => fun
  | [d] => { results := [.lit (.bool false)], args := [d] }
  | _ => none }
def RlogBackWrongFalsely : Prop := rlogBackRow.holds Try.pinned (OpenSpec.ofChange rlogBackWrong)

/-- 'steadfastlaw06.RlogSpoilt': WHATEVER THE INPUT: true; the input reads as it did. -/
def rlogSpoiltSpec : ChangeSpec := { name := "rlogSpoilt", fn := fun _ => fun
  | [d1, d2, d3] => { results := [.lit (.bool true)], args := [d1, d2, d3] }
  | _ => none }
def rlogSpoiltRow : OpenClaim := { program := "ythpcjcdiaifoiaa", sum := "1714d8ff075c28f3f167a99a5ddd0de968f113239b8c21ffa4dfa70e434e558b", func := "steadfast/steadfastlaw06.RlogSpoilt", spec := "rlogSpoilt", unfollowed := true, recurses := true, apart := false }
def RlogSpoiltSaid : Prop := rlogSpoiltRow.holds Try.pinned (OpenSpec.ofChange rlogSpoiltSpec)

/-- ITS FALSE NEIGHBOUR: 'it returns false'. Refute it at one input. -/
def rlogSpoiltWrong : ChangeSpec := { name := "rlogSpoilt", fn := fun _ => fun
  | [d1, d2, d3] => { results := [.lit (.bool false)], args := [d1, d2, d3] }
  | _ => none }
def RlogSpoiltWrongFalsely : Prop := rlogSpoiltRow.holds Try.pinned (OpenSpec.ofChange rlogSpoiltWrong)

/-- 'steadfastlaw06.RlogLasts': WHATEVER THE INPUT: true; the input reads as it did. -/
def rlogLastsSpec : ChangeSpec := { name := "rlogLasts", fn := fun _ => fun
  | [d1, d2, d3] => { results := [.lit (.bool true)], args := [d1, d2, d3] }
  | _ => none }
def rlogLastsRow : OpenClaim := { program := "ythpcjcdiaifoiaa", sum := "1714d8ff075c28f3f167a99a5ddd0de968f113239b8c21ffa4dfa70e434e558b", func := "steadfast/steadfastlaw06.RlogLasts", spec := "rlogLasts", unfollowed := true, recurses := true, apart := false }
def RlogLastsSaid : Prop := rlogLastsRow.holds Try.pinned (OpenSpec.ofChange rlogLastsSpec)

/-- ITS FALSE NEIGHBOUR: 'it returns false'. Refute it at one input. -/
def rlogLastsWrong : ChangeSpec := { name := "rlogLasts", fn := fun _ => fun
  | [d1, d2, d3] => { results := [.lit (.bool false)], args := [d1, d2, d3] }
  | _ => none }
def RlogLastsWrongFalsely : Prop := rlogLastsRow.holds Try.pinned (OpenSpec.ofChange rlogLastsWrong)

/-- 'steadfastlaw06.RlogPlays': WHATEVER THE INPUT: true; the input reads as it did. -/
def rlogPlaysSpec : ChangeSpec := { name := "rlogPlays", fn := fun _ => fun
  | [d] => { results := [.lit (.bool true)], args := [d] }
  | _ => none }
def rlogPlaysRow : OpenClaim := { program := "ythpcjcdiaifoiaa", sum := "1714d8ff075c28f3f167a99a5ddd0de968f113239b8c21ffa4dfa70e434e558b", func := "steadfast/steadfastlaw06.RlogPlays", spec := "rlogPlays", unfollowed := true, recurses := true, apart := false }
def RlogPlaysSaid : Prop := rlogPlaysRow.holds Try.pinned (OpenSpec.ofChange rlogPlaysSpec)

/-- ITS FALSE NEIGHBOUR: 'it returns false'. Refute it at one input. -/
def rlogPlaysWrong : ChangeSpec := { name := "rlogPlays", fn := fun _ => fun
  | [d] => { results := [.lit (.bool false)], args := [d] }
  | _ => none }
def RlogPlaysWrongFalsely : Prop := rlogPlaysRow.holds Try.pinned (OpenSpec.ofChange rlogPlaysWrong)

/- THE SECOND FORM. 'bulk': how many values and letters a reading holds, each counted each time it is reached (what is shared counts as often as it is met; a slice's spare places count too). A statement '..UptoSaid' is the law's where the arguments, and the package variables that the reading takes, are together of bulk at most 1048576: NARROWER than '..Said'. Prove '..Said' where nothing that the law and all that it calls make is longer than what came in: it says more and counts as full. Else prove '..UptoSaid'. A law counts once. -/
mutual
def uptoBulk {H : Type} : DataW H → Nat
  | .lit (.string bytes) => bytes.length + 1
  | .lit _ => 1
  | .nil => 1
  | .ptr d => uptoBulk d + 1
  | .slice elems spare => uptoBulkAll elems + uptoBulkAll spare + 1
  | .agg parts => uptoBulkAll parts + 1
  | .iface _ d => uptoBulk d + 1
  | .map entries => uptoBulkEntries entries + 1
  | .held _ => 1
def uptoBulkAll {H : Type} : List (DataW H) → Nat
  | [] => 0
  | d :: r => uptoBulk d + uptoBulkAll r
def uptoBulkEntries {H : Type} : List (Lit × DataW H) → Nat
  | [] => 0
  | x :: r => uptoBulkEntry x + uptoBulkEntries r
def uptoBulkEntry {H : Type} : Lit × DataW H → Nat
  | (.string bytes, d) => bytes.length + uptoBulk d + 1
  | (_, d) => uptoBulk d + 1
 end
def uptoSmall : (H : Type) → List (DataW H) → Bool := fun _ ds => decide (uptoBulkAll ds ≤ 1048576)
def OpenSpec.upto (s : _root_.Go.ChangeSpec) : _root_.Go.OpenSpec := { _root_.Go.OpenSpec.ofChange s with cond := some uptoSmall }

/-- 'steadfastlaw06.RlogLines', WHERE WHAT IT READS IS OF BULK AT MOST 1048576: true; the input reads as it did. -/
def rlogLinesUptoRow : OpenClaim := { program := "ythpcjcdiaifoiaa", sum := "1714d8ff075c28f3f167a99a5ddd0de968f113239b8c21ffa4dfa70e434e558b", func := "steadfast/steadfastlaw06.RlogLines", spec := "rlogLines", unfollowed := true, recurses := true, apart := false, narrowed := true }
def RlogLinesUptoSaid : Prop := rlogLinesUptoRow.holds Try.pinned (OpenSpec.upto rlogLinesSpec)

/-- 'steadfastlaw06.RlogAgain', WHERE WHAT IT READS IS OF BULK AT MOST 1048576: true; the input reads as it did. -/
def rlogAgainUptoRow : OpenClaim := { program := "ythpcjcdiaifoiaa", sum := "1714d8ff075c28f3f167a99a5ddd0de968f113239b8c21ffa4dfa70e434e558b", func := "steadfast/steadfastlaw06.RlogAgain", spec := "rlogAgain", unfollowed := true, recurses := true, apart := false, narrowed := true }
def RlogAgainUptoSaid : Prop := rlogAgainUptoRow.holds Try.pinned (OpenSpec.upto rlogAgainSpec)

/-- 'steadfastlaw06.RlogOrder', WHERE WHAT IT READS IS OF BULK AT MOST 1048576: true; the input reads as it did. -/
def rlogOrderUptoRow : OpenClaim := { program := "ythpcjcdiaifoiaa", sum := "1714d8ff075c28f3f167a99a5ddd0de968f113239b8c21ffa4dfa70e434e558b", func := "steadfast/steadfastlaw06.RlogOrder", spec := "rlogOrder", unfollowed := true, recurses := true, apart := false, narrowed := true }
def RlogOrderUptoSaid : Prop := rlogOrderUptoRow.holds Try.pinned (OpenSpec.upto rlogOrderSpec)

/-- 'steadfastlaw06.RlogApart', WHERE WHAT IT READS IS OF BULK AT MOST 1048576: true; the input reads as it did. -/
def rlogApartUptoRow : OpenClaim := { program := "ythpcjcdiaifoiaa", sum := "1714d8ff075c28f3f167a99a5ddd0de968f113239b8c21ffa4dfa70e434e558b", func := "steadfast/steadfastlaw06.RlogApart", spec := "rlogApart", unfollowed := true, recurses := true, apart := false, narrowed := true }
def RlogApartUptoSaid : Prop := rlogApartUptoRow.holds Try.pinned (OpenSpec.upto rlogApartSpec)

/-- 'steadfastlaw06.RlogBack', WHERE WHAT IT READS IS OF BULK AT MOST 1048576: true; the input reads as it did. -/
def rlogBackUptoRow : OpenClaim := { program := "ythpcjcdiaifoiaa", sum := "1714d8ff075c28f3f167a99a5ddd0de968f113239b8c21ffa4dfa70e434e558b", func := "steadfast/steadfastlaw06.RlogBack", spec := "rlogBack", unfollowed := true, recurses := true, apart := false, narrowed := true }
def RlogBackUptoSaid : Prop := rlogBackUptoRow.holds Try.pinned (OpenSpec.upto rlogBackSpec)

/-- 'steadfastlaw06.RlogSpoilt', WHERE WHAT IT READS IS OF BULK AT MOST 1048576: true; the input reads as it did. -/
def rlogSpoiltUptoRow : OpenClaim := { program := "ythpcjcdiaifoiaa", sum := "1714d8ff075c28f3f167a99a5ddd0de968f113239b8c21ffa4dfa70e434e558b", func := "steadfast/steadfastlaw06.RlogSpoilt", spec := "rlogSpoilt", unfollowed := true, recurses := true, apart := false, narrowed := true }
def RlogSpoiltUptoSaid : Prop := rlogSpoiltUptoRow.holds Try.pinned (OpenSpec.upto rlogSpoiltSpec)

/-- 'steadfastlaw06.RlogLasts', WHERE WHAT IT READS IS OF BULK AT MOST 1048576: true; the input reads as it did. -/
def rlogLastsUptoRow : OpenClaim := { program := "ythpcjcdiaifoiaa", sum := "1714d8ff075c28f3f167a99a5ddd0de968f113239b8c21ffa4dfa70e434e558b", func := "steadfast/steadfastlaw06.RlogLasts", spec := "rlogLasts", unfollowed := true, recurses := true, apart := false, narrowed := true }
def RlogLastsUptoSaid : Prop := rlogLastsUptoRow.holds Try.pinned (OpenSpec.upto rlogLastsSpec)

/-- 'steadfastlaw06.RlogPlays', WHERE WHAT IT READS IS OF BULK AT MOST 1048576: true; the input reads as it did. -/
def rlogPlaysUptoRow : OpenClaim := { program := "ythpcjcdiaifoiaa", sum := "1714d8ff075c28f3f167a99a5ddd0de968f113239b8c21ffa4dfa70e434e558b", func := "steadfast/steadfastlaw06.RlogPlays", spec := "rlogPlays", unfollowed := true, recurses := true, apart := false, narrowed := true }
def RlogPlaysUptoSaid : Prop := rlogPlaysUptoRow.holds Try.pinned (OpenSpec.upto rlogPlaysSpec)

end Rows
end Go.Proofs.Ythpcjcdiaifoiaa

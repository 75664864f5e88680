/-
  No cell of these rows narrows 'for every input' (looked for: loops, veiled, ifaces, maps, wideKeys, modest, calm, conditions, laid).
  DERIVED. THE GIVEN ROWS OF THIS SEAT. 3 by the template 'for every input the law returns true; each argument reads behind the call as it read before'; 0 by the template 'total and deterministic' (their statements: YtimdpdkgiibndaaTotals.lean).
  GIVEN WITH THE SEED: the statements are not yours to turn. If you find one false, say at which input.
  Laid BY PROGRAM, IN A SANDBOX (cutbox-rows.mjs): the forced cells as the released guide's own fill.sh prints them over the translation c0e20b8a0250643d… (all of the seat's roots in one cut). By AI agents, Wed Nov 11 2026. No macro, syntax, notation, axiom, sorry.
-/
import Derived.Test.YtimdpdkgiibndaaChecked
import GoSem.Claim
import GoSem.ClaimJoined
import GoSem.ClaimMapViews
import Derived.JoinedTies
import Derived.KernelRfl
namespace Go.Proofs.Ytimdpdkgiibndaa
/- THE CELL 'sum', in the pinned program and in every row, IS THE sha256 OF THE DUMP (.gsa) THAT YtimdpdkgiibndaaProg.lean LOADS. Nothing in Lean hashes anything: it is a label: what it is worth is what the hold of that sum in a sandbox is worth. -/
noncomputable def Try.pinned : Pinned := { name := "ytimdpdkgiibndaa", sum := "c0e20b8a0250643d569e7e6a875100c436b4a706c84871bc6cd198c329aa90e6", checked := Try.checked }
namespace Rows
def none {H : Type} : Left H := { results := [], args := [] }

/-- 'steadfastlaw16.TlbLast': WHATEVER THE INPUT: true; the input reads as it did. -/
def tlbLastSpec : ChangeSpec := { name := "tlbLast", fn := fun _ => fun
  | [d] => { results := [.lit (.bool true)], args := [d] }
  | _ => none }
def tlbLastRow : OpenClaim := { program := "ytimdpdkgiibndaa", sum := "c0e20b8a0250643d569e7e6a875100c436b4a706c84871bc6cd198c329aa90e6", func := "steadfast/steadfastlaw16.TlbLast", spec := "tlbLast", unfollowed := true, recurses := true, apart := false }
def TlbLastSaid : Prop := tlbLastRow.holds Try.pinned (OpenSpec.ofChange tlbLastSpec)

/-- ITS FALSE NEIGHBOUR: 'it returns false'. Refute it at one input. -/
def tlbLastWrong : ChangeSpec := { name := "tlbLast", fn := fun _ => fun
  | [d] => { results := [.lit (.bool false)], args := [d] }
  | _ => none }
def TlbLastWrongFalsely : Prop := tlbLastRow.holds Try.pinned (OpenSpec.ofChange tlbLastWrong)

/-- 'steadfastlaw16.TlbForgets': WHATEVER THE INPUT: true; the input reads as it did. -/
def tlbForgetsSpec : ChangeSpec := { name := "tlbForgets", fn := fun _ => fun
  | [d] => { results := [.lit (.bool true)], args := [d] }
  | _ => none }
def tlbForgetsRow : OpenClaim := { program := "ytimdpdkgiibndaa", sum := "c0e20b8a0250643d569e7e6a875100c436b4a706c84871bc6cd198c329aa90e6", func := "steadfast/steadfastlaw16.TlbForgets", spec := "tlbForgets", unfollowed := true, recurses := true, apart := false }
def TlbForgetsSaid : Prop := tlbForgetsRow.holds Try.pinned (OpenSpec.ofChange tlbForgetsSpec)

/-- ITS FALSE NEIGHBOUR: 'it returns false'. Refute it at one input. -/
def tlbForgetsWrong : ChangeSpec := { name := "tlbForgets", fn := fun _ => fun
  | [d] => { results := [.lit (.bool false)], args := [d] }
  | _ => none }
def TlbForgetsWrongFalsely : Prop := tlbForgetsRow.holds Try.pinned (OpenSpec.ofChange tlbForgetsWrong)

/-- 'steadfastlaw16.TlbPlays': WHATEVER THE INPUT: true; the input reads as it did. -/
def tlbPlaysSpec : ChangeSpec := { name := "tlbPlays", fn := fun _ => fun
  | [d] => { results := [.lit (.bool true)], args := [d] }
  | _ => none }
def tlbPlaysRow : OpenClaim := { program := "ytimdpdkgiibndaa", sum := "c0e20b8a0250643d569e7e6a875100c436b4a706c84871bc6cd198c329aa90e6", func := "steadfast/steadfastlaw16.TlbPlays", spec := "tlbPlays", unfollowed := true, recurses := true, apart := false }
def TlbPlaysSaid : Prop := tlbPlaysRow.holds Try.pinned (OpenSpec.ofChange tlbPlaysSpec)

/-- ITS FALSE NEIGHBOUR: 'it returns false'. Refute it at one input. -/
def tlbPlaysWrong : ChangeSpec := { name := "tlbPlays", fn := fun _ => fun
  | [d] => { results := [.lit (.bool false)], args := [d] }
  | _ => none }
def TlbPlaysWrongFalsely : Prop := tlbPlaysRow.holds Try.pinned (OpenSpec.ofChange tlbPlaysWrong)

/- THE SECOND FORM. 'bulk': how many values and letters a reading holds, each counted each time it is reached (what is shared counts as often as it is met; a slice's spare places count too). A statement '..UptoSaid' is the law's where the arguments, and the package variables that the reading takes, are together of bulk at most 1048576: NARROWER than '..Said'. Prove '..Said' where nothing that the law and all that it calls make is longer than what came in: it says more and counts as full. Else prove '..UptoSaid'. A law counts once. -/
mutual
def uptoBulk {H : Type} : DataW H → Nat
  | .lit (.string bytes) => bytes.length + 1
  | .lit _ => 1
  | .nil => 1
  | .ptr d => uptoBulk d + 1
  | .slice elems spare => uptoBulkAll elems + uptoBulkAll spare + 1
  | .agg parts => uptoBulkAll parts + 1
  | .iface _ d => uptoBulk d + 1
  | .map entries => uptoBulkEntries entries + 1
  | .held _ => 1
def uptoBulkAll {H : Type} : List (DataW H) → Nat
  | [] => 0
  | d :: r => uptoBulk d + uptoBulkAll r
def uptoBulkEntries {H : Type} : List (Lit × DataW H) → Nat
  | [] => 0
  | x :: r => uptoBulkEntry x + uptoBulkEntries r
def uptoBulkEntry {H : Type} : Lit × DataW H → Nat
  | (.string bytes, d) => bytes.length + uptoBulk d + 1
  | (_, d) => uptoBulk d + 1
 end
def uptoSmall : (H : Type) → List (DataW H) → Bool := fun _ ds => decide (uptoBulkAll ds ≤ 1048576)
def OpenSpec.upto (s : _root_.Go.ChangeSpec) : _root_.Go.OpenSpec := { _root_.Go.OpenSpec.ofChange s with cond := some uptoSmall }

/-- 'steadfastlaw16.TlbLast', WHERE WHAT IT READS IS OF BULK AT MOST 1048576: true; the input reads as it did. -/
def tlbLastUptoRow : OpenClaim := { program := "ytimdpdkgiibndaa", sum := "c0e20b8a0250643d569e7e6a875100c436b4a706c84871bc6cd198c329aa90e6", func := "steadfast/steadfastlaw16.TlbLast", spec := "tlbLast", unfollowed := true, recurses := true, apart := false, narrowed := true }
def TlbLastUptoSaid : Prop := tlbLastUptoRow.holds Try.pinned (OpenSpec.upto tlbLastSpec)

/-- 'steadfastlaw16.TlbForgets', WHERE WHAT IT READS IS OF BULK AT MOST 1048576: true; the input reads as it did. -/
def tlbForgetsUptoRow : OpenClaim := { program := "ytimdpdkgiibndaa", sum := "c0e20b8a0250643d569e7e6a875100c436b4a706c84871bc6cd198c329aa90e6", func := "steadfast/steadfastlaw16.TlbForgets", spec := "tlbForgets", unfollowed := true, recurses := true, apart := false, narrowed := true }
def TlbForgetsUptoSaid : Prop := tlbForgetsUptoRow.holds Try.pinned (OpenSpec.upto tlbForgetsSpec)

/-- 'steadfastlaw16.TlbPlays', WHERE WHAT IT READS IS OF BULK AT MOST 1048576: true; the input reads as it did. -/
def tlbPlaysUptoRow : OpenClaim := { program := "ytimdpdkgiibndaa", sum := "c0e20b8a0250643d569e7e6a875100c436b4a706c84871bc6cd198c329aa90e6", func := "steadfast/steadfastlaw16.TlbPlays", spec := "tlbPlays", unfollowed := true, recurses := true, apart := false, narrowed := true }
def TlbPlaysUptoSaid : Prop := tlbPlaysUptoRow.holds Try.pinned (OpenSpec.upto tlbPlaysSpec)

end Rows
end Go.Proofs.Ytimdpdkgiibndaa

/-
  No cell of these rows narrows 'for every input' (looked for: loops, veiled, ifaces, maps, wideKeys, modest, calm, conditions, laid).
  DERIVED. THE GIVEN ROWS OF THIS SEAT. 8 by the template 'for every input the law returns true; each argument reads behind the call as it read before'; 0 by the template 'total and deterministic' (their statements: YtgohhgkonbenbaaTotals.lean).
  GIVEN WITH THE SEED: the statements are not yours to turn. If you find one false, say at which input.
  Laid BY PROGRAM, IN A SANDBOX (cutbox-rows.mjs): the forced cells as the released guide's own fill.sh prints them over the translation ed8325ce8a985b84… (all of the seat's roots in one cut). By AI agents, Wed Nov 11 2026. No macro, syntax, notation, axiom, sorry.
-/
import Derived.Test.YtgohhgkonbenbaaChecked
import GoSem.Claim
import GoSem.ClaimJoined
import GoSem.ClaimMapViews
import Derived.JoinedTies
import Derived.KernelRfl
namespace Go.Proofs.Ytgohhgkonbenbaa
/- THE CELL 'sum', in the pinned program and in every row, IS THE sha256 OF THE DUMP (.gsa) THAT YtgohhgkonbenbaaProg.lean LOADS. Nothing in Lean hashes anything: it is a label: what it is worth is what the hold of that sum in a sandbox is worth. -/
noncomputable def Try.pinned : Pinned := { name := "ytgohhgkonbenbaa", sum := "ed8325ce8a985b847648da01f65abf4f761a347ca56e3ffbd03668f9ba459bb8", checked := Try.checked }
namespace Rows
def none {H : Type} : Left H := { results := [], args := [] }

/-- 'steadfastlaw01.WordFields': WHATEVER THE INPUT: true; the input reads as it did. -/
def wordFieldsSpec : ChangeSpec := { name := "wordFields", fn := fun _ => fun
  | [d1, d2, d3] => { results := [.lit (.bool true)], args := [d1, d2, d3] }
  | _ => none }
def wordFieldsRow : OpenClaim := { program := "ytgohhgkonbenbaa", sum := "ed8325ce8a985b847648da01f65abf4f761a347ca56e3ffbd03668f9ba459bb8", func := "steadfast/steadfastlaw01.WordFields", spec := "wordFields", apart := false }
def WordFieldsSaid : Prop := wordFieldsRow.holds Try.pinned (OpenSpec.ofChange wordFieldsSpec)

/-- ITS FALSE NEIGHBOUR: 'it returns false'. Refute it at one input. -/
def wordFieldsWrong : ChangeSpec := { name := "wordFields", fn := fun _ => fun
  | [d1, d2, d3] => { results := [.lit (.bool false)], args := [d1, d2, d3] }
  | _ => none }
def WordFieldsWrongFalsely : Prop := wordFieldsRow.holds Try.pinned (OpenSpec.ofChange wordFieldsWrong)

/-- 'steadfastlaw01.WordBack': WHATEVER THE INPUT: true; the input reads as it did. -/
def wordBackSpec : ChangeSpec := { name := "wordBack", fn := fun _ => fun
  | [d1, d2, d3] => { results := [.lit (.bool true)], args := [d1, d2, d3] }
  | _ => none }
def wordBackRow : OpenClaim := { program := "ytgohhgkonbenbaa", sum := "ed8325ce8a985b847648da01f65abf4f761a347ca56e3ffbd03668f9ba459bb8", func := "steadfast/steadfastlaw01.WordBack", spec := "wordBack", apart := false }
def WordBackSaid : Prop := wordBackRow.holds Try.pinned (OpenSpec.ofChange wordBackSpec)

/-- ITS FALSE NEIGHBOUR: 'it returns false'. Refute it at one input. -/
def wordBackWrong : ChangeSpec := { name := "wordBack", fn := fun _ => fun
  | [d1, d2, d3] => { results := [.lit (.bool false)], args := [d1, d2, d3] }
  | _ => none }
def WordBackWrongFalsely : Prop := wordBackRow.holds Try.pinned (OpenSpec.ofChange wordBackWrong)

/-- 'steadfastlaw01.WordApart': WHATEVER THE INPUT: true; the input reads as it did. -/
def wordApartSpec : ChangeSpec := { name := "wordApart", fn := fun _ => fun
  | [d1, d2, d3] => { results := [.lit (.bool true)], args := [d1, d2, d3] }
  | _ => none }
def wordApartRow : OpenClaim := { program := "ytgohhgkonbenbaa", sum := "ed8325ce8a985b847648da01f65abf4f761a347ca56e3ffbd03668f9ba459bb8", func := "steadfast/steadfastlaw01.WordApart", spec := "wordApart", apart := false }
def WordApartSaid : Prop := wordApartRow.holds Try.pinned (OpenSpec.ofChange wordApartSpec)

/-- ITS FALSE NEIGHBOUR: 'it returns false'. Refute it at one input. -/
def wordApartWrong : ChangeSpec := { name := "wordApart", fn := fun _ => fun
  | [d1, d2, d3] => { results := [.lit (.bool false)], args := [d1, d2, d3] }
  | _ => none }
def WordApartWrongFalsely : Prop := wordApartRow.holds Try.pinned (OpenSpec.ofChange wordApartWrong)

/-- 'steadfastlaw01.WordNumbers': WHATEVER THE INPUT: true; the input reads as it did. -/
def wordNumbersSpec : ChangeSpec := { name := "wordNumbers", fn := fun _ => fun
  | [d1, d2] => { results := [.lit (.bool true)], args := [d1, d2] }
  | _ => none }
def wordNumbersRow : OpenClaim := { program := "ytgohhgkonbenbaa", sum := "ed8325ce8a985b847648da01f65abf4f761a347ca56e3ffbd03668f9ba459bb8", func := "steadfast/steadfastlaw01.WordNumbers", spec := "wordNumbers", apart := false }
def WordNumbersSaid : Prop := wordNumbersRow.holds Try.pinned (OpenSpec.ofChange wordNumbersSpec)

/-- ITS FALSE NEIGHBOUR: 'it returns false'. Refute it at one input. -/
def wordNumbersWrong : ChangeSpec := { name := "wordNumbers", fn := fun _ => fun
  | [d1, d2] => { results := [.lit (.bool false)], args := [d1, d2] }
  | _ => none }
def WordNumbersWrongFalsely : Prop := wordNumbersRow.holds Try.pinned (OpenSpec.ofChange wordNumbersWrong)

/-- 'steadfastlaw01.WordParts': WHATEVER THE INPUT: true; the input reads as it did. -/
def wordPartsSpec : ChangeSpec := { name := "wordParts", fn := fun _ => fun
  | [d1, d2, d3] => { results := [.lit (.bool true)], args := [d1, d2, d3] }
  | _ => none }
def wordPartsRow : OpenClaim := { program := "ytgohhgkonbenbaa", sum := "ed8325ce8a985b847648da01f65abf4f761a347ca56e3ffbd03668f9ba459bb8", func := "steadfast/steadfastlaw01.WordParts", spec := "wordParts", apart := false }
def WordPartsSaid : Prop := wordPartsRow.holds Try.pinned (OpenSpec.ofChange wordPartsSpec)

/-- ITS FALSE NEIGHBOUR: 'it returns false'. Refute it at one input. -/
def wordPartsWrong : ChangeSpec := { name := "wordParts", fn := fun _ => fun
  | [d1, d2, d3] => { results := [.lit (.bool false)], args := [d1, d2, d3] }
  | _ => none }
def WordPartsWrongFalsely : Prop := wordPartsRow.holds Try.pinned (OpenSpec.ofChange wordPartsWrong)

/-- 'steadfastlaw01.WordCleared': WHATEVER THE INPUT: true; the input reads as it did. -/
def wordClearedSpec : ChangeSpec := { name := "wordCleared", fn := fun _ => fun
  | [d1, d2] => { results := [.lit (.bool true)], args := [d1, d2] }
  | _ => none }
def wordClearedRow : OpenClaim := { program := "ytgohhgkonbenbaa", sum := "ed8325ce8a985b847648da01f65abf4f761a347ca56e3ffbd03668f9ba459bb8", func := "steadfast/steadfastlaw01.WordCleared", spec := "wordCleared", apart := false }
def WordClearedSaid : Prop := wordClearedRow.holds Try.pinned (OpenSpec.ofChange wordClearedSpec)

/-- ITS FALSE NEIGHBOUR: 'it returns false'. Refute it at one input. -/
def wordClearedWrong : ChangeSpec := { name := "wordCleared", fn := fun _ => fun
  | [d1, d2] => { results := [.lit (.bool false)], args := [d1, d2] }
  | _ => none }
def WordClearedWrongFalsely : Prop := wordClearedRow.holds Try.pinned (OpenSpec.ofChange wordClearedWrong)

/-- 'steadfastlaw01.WordLines': WHATEVER THE INPUT: true; the input reads as it did. -/
def wordLinesSpec : ChangeSpec := { name := "wordLines", fn := fun _ => fun
  | [d1, d2, d3] => { results := [.lit (.bool true)], args := [d1, d2, d3] }
  | _ => none }
def wordLinesRow : OpenClaim := { program := "ytgohhgkonbenbaa", sum := "ed8325ce8a985b847648da01f65abf4f761a347ca56e3ffbd03668f9ba459bb8", func := "steadfast/steadfastlaw01.WordLines", spec := "wordLines", apart := false }
def WordLinesSaid : Prop := wordLinesRow.holds Try.pinned (OpenSpec.ofChange wordLinesSpec)

/-- ITS FALSE NEIGHBOUR: 'it returns false'. Refute it at one input. -/
def wordLinesWrong : ChangeSpec := { name := "wordLines", fn := fun _ => fun
  | [d1, d2, d3] => { results := [.lit (.bool false)], args := [d1, d2, d3] }
  | _ => none }
def WordLinesWrongFalsely : Prop := wordLinesRow.holds Try.pinned (OpenSpec.ofChange wordLinesWrong)

/-- 'steadfastlaw01.WordBytes': WHATEVER THE INPUT: true; the input reads as it did. -/
def wordBytesSpec : ChangeSpec := { name := "wordBytes", fn := fun _ => fun
  | [d1, d2] => { results := [.lit (.bool true)], args := [d1, d2] }
  | _ => none }
def wordBytesRow : OpenClaim := { program := "ytgohhgkonbenbaa", sum := "ed8325ce8a985b847648da01f65abf4f761a347ca56e3ffbd03668f9ba459bb8", func := "steadfast/steadfastlaw01.WordBytes", spec := "wordBytes", apart := false }
def WordBytesSaid : Prop := wordBytesRow.holds Try.pinned (OpenSpec.ofChange wordBytesSpec)

/-- ITS FALSE NEIGHBOUR: 'it returns false'. Refute it at one input. -/
def wordBytesWrong : ChangeSpec := { name := "wordBytes", fn := fun _ => fun
  | [d1, d2] => { results := [.lit (.bool false)], args := [d1, d2] }
  | _ => none }
def WordBytesWrongFalsely : Prop := wordBytesRow.holds Try.pinned (OpenSpec.ofChange wordBytesWrong)

/- THE SECOND FORM. 'bulk': how many values and letters a reading holds, each counted each time it is reached (what is shared counts as often as it is met; a slice's spare places count too). A statement '..UptoSaid' is the law's where the arguments, and the package variables that the reading takes, are together of bulk at most 1048576: NARROWER than '..Said'. Prove '..Said' where nothing that the law and all that it calls make is longer than what came in: it says more and counts as full. Else prove '..UptoSaid'. A law counts once. -/
mutual
def uptoBulk {H : Type} : DataW H → Nat
  | .lit (.string bytes) => bytes.length + 1
  | .lit _ => 1
  | .nil => 1
  | .ptr d => uptoBulk d + 1
  | .slice elems spare => uptoBulkAll elems + uptoBulkAll spare + 1
  | .agg parts => uptoBulkAll parts + 1
  | .iface _ d => uptoBulk d + 1
  | .map entries => uptoBulkEntries entries + 1
  | .held _ => 1
def uptoBulkAll {H : Type} : List (DataW H) → Nat
  | [] => 0
  | d :: r => uptoBulk d + uptoBulkAll r
def uptoBulkEntries {H : Type} : List (Lit × DataW H) → Nat
  | [] => 0
  | x :: r => uptoBulkEntry x + uptoBulkEntries r
def uptoBulkEntry {H : Type} : Lit × DataW H → Nat
  | (.string bytes, d) => bytes.length + uptoBulk d + 1
  | (_, d) => uptoBulk d + 1
 end
def uptoSmall : (H : Type) → List (DataW H) → Bool := fun _ ds => decide (uptoBulkAll ds ≤ 1048576)
def OpenSpec.upto (s : _root_.Go.ChangeSpec) : _root_.Go.OpenSpec := { _root_.Go.OpenSpec.ofChange s with cond := some uptoSmall }

/-- 'steadfastlaw01.WordFields', WHERE WHAT IT READS IS OF BULK AT MOST 1048576: true; the input reads as it did. -/
def wordFieldsUptoRow : OpenClaim := { program := "ytgohhgkonbenbaa", sum := "ed8325ce8a985b847648da01f65abf4f761a347ca56e3ffbd03668f9ba459bb8", func := "steadfast/steadfastlaw01.WordFields", spec := "wordFields", apart := false, narrowed := true }
def WordFieldsUptoSaid : Prop := wordFieldsUptoRow.holds Try.pinned (OpenSpec.upto wordFieldsSpec)

/-- 'steadfastlaw01.WordBack', WHERE WHAT IT READS IS OF BULK AT MOST 1048576: true; the input reads as it did. -/
def wordBackUptoRow : OpenClaim := { program := "ytgohhgkonbenbaa", sum := "ed8325ce8a985b847648da01f65abf4f761a347ca56e3ffbd03668f9ba459bb8", func := "steadfast/steadfastlaw01.WordBack", spec := "wordBack", apart := false, narrowed := true }
def WordBackUptoSaid : Prop := wordBackUptoRow.holds Try.pinned (OpenSpec.upto wordBackSpec)

/-- 'steadfastlaw01.WordApart', WHERE WHAT IT READS IS OF BULK AT MOST 1048576: true; the input reads as it did. -/
def wordApartUptoRow : OpenClaim := { program := "ytgohhgkonbenbaa", sum := "ed8325ce8a985b847648da01f65abf4f761a347ca56e3ffbd03668f9ba459bb8", func := "steadfast/steadfastlaw01.WordApart", spec := "wordApart", apart := false, narrowed := true }
def WordApartUptoSaid : Prop := wordApartUptoRow.holds Try.pinned (OpenSpec.upto wordApartSpec)

/-- 'steadfastlaw01.WordNumbers', WHERE WHAT IT READS IS OF BULK AT MOST 1048576: true; the input reads as it did. -/
def wordNumbersUptoRow : OpenClaim := { program := "ytgohhgkonbenbaa", sum := "ed8325ce8a985b847648da01f65abf4f761a347ca56e3ffbd03668f9ba459bb8", func := "steadfast/steadfastlaw01.WordNumbers", spec := "wordNumbers", apart := false, narrowed := true }
def WordNumbersUptoSaid : Prop := wordNumbersUptoRow.holds Try.pinned (OpenSpec.upto wordNumbersSpec)

/-- 'steadfastlaw01.WordParts', WHERE WHAT IT READS IS OF BULK AT MOST 1048576: true; the input reads as it did. -/
def wordPartsUptoRow : OpenClaim := { program := "ytgohhgkonbenbaa", sum := "ed8325ce8a985b847648da01f65abf4f761a347ca56e3ffbd03668f9ba459bb8", func := "steadfast/steadfastlaw01.WordParts", spec := "wordParts", apart := false, narrowed := true }
def WordPartsUptoSaid : Prop := wordPartsUptoRow.holds Try.pinned (OpenSpec.upto wordPartsSpec)

/-- 'steadfastlaw01.WordCleared', WHERE WHAT IT READS IS OF BULK AT MOST 1048576: true; the input reads as it did. -/
def wordClearedUptoRow : OpenClaim := { program := "ytgohhgkonbenbaa", sum := "ed8325ce8a985b847648da01f65abf4f761a347ca56e3ffbd03668f9ba459bb8", func := "steadfast/steadfastlaw01.WordCleared", spec := "wordCleared", apart := false, narrowed := true }
def WordClearedUptoSaid : Prop := wordClearedUptoRow.holds Try.pinned (OpenSpec.upto wordClearedSpec)

/-- 'steadfastlaw01.WordLines', WHERE WHAT IT READS IS OF BULK AT MOST 1048576: true; the input reads as it did. -/
def wordLinesUptoRow : OpenClaim := { program := "ytgohhgkonbenbaa", sum := "ed8325ce8a985b847648da01f65abf4f761a347ca56e3ffbd03668f9ba459bb8", func := "steadfast/steadfastlaw01.WordLines", spec := "wordLines", apart := false, narrowed := true }
def WordLinesUptoSaid : Prop := wordLinesUptoRow.holds Try.pinned (OpenSpec.upto wordLinesSpec)

/-- 'steadfastlaw01.WordBytes', WHERE WHAT IT READS IS OF BULK AT MOST 1048576: true; the input reads as it did. -/
def wordBytesUptoRow : OpenClaim := { program := "ytgohhgkonbenbaa", sum := "ed8325ce8a985b847648da01f65abf4f761a347ca56e3ffbd03668f9ba459bb8", func := "steadfast/steadfastlaw01.WordBytes", spec := "wordBytes", apart := false, narrowed := true }
def WordBytesUptoSaid : Prop := wordBytesUptoRow.holds Try.pinned (OpenSpec.upto wordBytesSpec)

end Rows
end Go.Proofs.Ytgohhgkonbenbaa

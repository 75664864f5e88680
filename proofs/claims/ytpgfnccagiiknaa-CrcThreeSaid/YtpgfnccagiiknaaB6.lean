/-
  What functions of the seat compute, printed by a program from the explorer.
-/
import Derived.Test.YtpgfnccagiiknaaG2
import Derived.KernelRfl
namespace Go.Proofs.Ytpgfnccagiiknaa.G
open Go Go.AM Go.Proofs
/-! ### the loop at 5 of CrcThree -/

def lsh_CrcThree_5 : FSh := ⟨[.v false [.sq 0 1], .v false [.sq 1 1], .v false [.sq 2 1], .any, .any, .any, .any, .v false [.k .b], .v false [.k (.n .i64)], .v false [.sw 3 1], .v false [.k (.n .i64)], .any, .any, .any, .any, .any, .any, .any, .any, .any, .any, .any, .any, .any, .any, .any, .any, .any, .any, .any, .any, .any, .any, .any, .any, .any, .any, .any, .any, .any, .any, .any, .any, .any, .any, .any, .any, .any, .any, .any, .any, .any, .any, .any, .any, .any, .any, .any, .any, .any, .any, .any, .any, .any, .any], [.rows [.n .u8] false, .rows [.n .u8] false, .rows [.n .u8] false, .rows [.n .u8] true]⟩
def xsh_CrcThree_5_0 : FSh := ⟨[.v false [.sq 0 1], .v false [.sq 1 1], .v false [.sq 2 1], .any, .any, .any, .any, .v false [.k .b], .v false [.k (.n .i64)], .v false [.sw 3 1], .any, .any, .any, .any, .any, .any, .any, .any, .any, .any, .any, .any, .any, .any, .any, .any, .any, .any, .any, .any, .any, .any, .any, .any, .any, .any, .any, .any, .any, .any, .any, .any, .any, .any, .any, .any, .any, .any, .any, .any, .any, .any, .any, .any, .any, .any, .any, .any, .any, .any, .any, .any, .any, .any, .any], [.rows [.n .u8] false, .rows [.n .u8] false, .rows [.n .u8] false, .rows [.n .u8] true]⟩
def xs_CrcThree_5 : Exs := fun e => match e with
  | .normal => some lsh_CrcThree_5
  | .exit n => (match Nat.beq n 0 with | true => some xsh_CrcThree_5_0 | false => none)
  | .ret => none
def B_CrcThree_5 (x0 : Nat) (x1 : Nat) (x2 : Nat) (x3 : Nat) (x4 : Nat) (x5 : Nat) (x6 : Bool) (x7 : Int) (x8 : Int) (n9 : Nat) (g9 : Nat → Nat → Int) (n10 : Nat) (g10 : Nat → Nat → Int) (n11 : Nat) (g11 : Nat → Nat → Int) (n12 : Nat) (g12 : Nat → Nat → Int) : Tr (Ex × List At) :=
 .br 25 (decide (x8 < x7))
 (.br 31 (within x8 x1)
 (.br 35 (within x8 x3)
 (.br 40 (within x8 x5)
 (.br 44 (decide (n12 + (1 : Nat) ≤ (1073741824 : Nat)))
 (.ok (.normal, [(.n (x0)), (.n (x1)), (.n (x2)), (.n (x3)), (.n (x4)), (.n (x5)), (.b (x6)), (.i (x7)), (.i (IntKind.wrap IntKind.i64 (x8 + (1 : Int)))), (.r (n9) (g9)), (.r (n10) (g10)), (.r (n11) (g11)), (.r (n12 + (1 : Nat)) (appG g12 n12   (rowsF     [[bits BinOp.xor IntKind.u8           (bits BinOp.xor IntKind.u8 (g9 (x0 + Int.toNat x8) (0 : Nat)) (g10 (x2 + Int.toNat x8) (0 : Nat)))           (g11 (x4 + Int.toNat x8) (0 : Nat))]])))]))
 (.no))
 (.no))
 (.no))
 (.no))
 (.ok (.exit 0, [(.n (x0)), (.n (x1)), (.n (x2)), (.n (x3)), (.n (x4)), (.n (x5)), (.b (x6)), (.i (x7)), (.r (n9) (g9)), (.r (n10) (g10)), (.r (n11) (g11)), (.r (n12) (g12))]))
def y_CrcThree_5 : Nat → Option Nat := syOf3 [25, 31, 35, 40, 44] [] []
def BL_CrcThree_5 (l : List At) : Tr (Ex × List At) := B_CrcThree_5 (aN l 0) (aN l 1) (aN l 2) (aN l 3) (aN l 4) (aN l 5) (aB l 6) (aI l 7) (aI l 8) (aRn l 9) (aRg l 9) (aRn l 10) (aRg l 10) (aRn l 11) (aRg l 11) (aRn l 12) (aRg l 12)
theorem eB_CrcThree_5 (l : List At) : (exec Try.prog Γ_shown y_CrcThree_5 noLoops 100 (loopAt Try.f6 5) ⟨mkV lsh_CrcThree_5 l, mkH lsh_CrcThree_5 l⟩).bind (leafL 3 xs_CrcThree_5) = BL_CrcThree_5 l := by kernel_rfl
/- by hand: O_CrcThree_5 (x0 : Nat) (x1 : Nat) (x2 : Nat) (x3 : Nat) (x4 : Nat) (x5 : Nat) (x6 : Bool) (x7 : Int) (x8 : Int) (n9 : Nat) (g9 : Nat → Nat → Int) (n10 : Nat) (g10 : Nat → Nat → Int) (n11 : Nat) (g11 : Nat → Nat → Int) (n12 : Nat) (g12 : Nat → Nat → Int) : Tr (Ex × List At); OL_CrcThree_5 (l) := O_CrcThree_5 (aN l 0) (aN l 1) (aN l 2) (aN l 3) (aN l 4) (aN l 5) (aB l 6) (aI l 7) (aI l 8) (aRn l 9) (aRg l 9) (aRn l 10) (aRg l 10) (aRn l 11) (aRg l 11) (aRn l 12) (aRg l 12); μ_CrcThree_5 : List At → Nat; rd_CrcThree_5 : ∀ l r, (OL_CrcThree_5 l).val = some r → RoundA BL_CrcThree_5 OL_CrcThree_5 μ_CrcThree_5 l r -/

end Go.Proofs.Ytpgfnccagiiknaa.G

/-
  What functions of the seat compute, printed by a program from the explorer.
-/
import Derived.Test.YtgmhggipaopoiaaCrc1
import Derived.KernelRfl
namespace Go.Proofs.Ytgmhggipaopoiaa.G
open Go Go.AM Go.Proofs
/-! ### the loop at 7 of crcMore -/

def lsh_crcMore_7 : FSh := ⟨[.any, .any, .any, .any, .any, .v false [.k (.n .u32)], .any, .any, .any, .any, .v false [.sq 0 1], .v false [.k (.n .i64)], .v false [.k (.n .i64)], .any, .any, .any, .any, .any, .any, .any, .v false [.k (.n .i64)], .any, .any, .any, .any, .any, .any, .any, .any, .any, .any, .any, .any], [.rows [.n .u8] false]⟩
def xsh_crcMore_7_0 : FSh := ⟨[.any, .any, .any, .any, .any, .v false [.k (.n .u32)], .any, .any, .any, .any, .v false [.sq 0 1], .v false [.k (.n .i64)], .v false [.k (.n .i64)], .any, .any, .any, .any, .any, .any, .any, .any, .any, .any, .any, .any, .any, .any, .any, .any, .any, .any, .any, .any], [.rows [.n .u8] false]⟩
def xs_crcMore_7 : Exs := fun e => match e with
  | .normal => some lsh_crcMore_7
  | .exit n => (match Nat.beq n 2 with | true => some xsh_crcMore_7_0 | false => none)
  | .ret => none
def B_crcMore_7 (x0 : Int) (x1 : Nat) (x2 : Nat) (x3 : Int) (x4 : Int) (x5 : Int) (n6 : Nat) (g6 : Nat → Nat → Int) : Tr (Ex × List At) :=
 .br 21 (decide (x5 < (8 : Int)))
 (.ok (.normal, [(.i (bits BinOp.xor IntKind.u32 (Int.fdiv x0 (2 : Int)) (bits BinOp.and IntKind.u32 (3988292384 : Int) (IntKind.wrap IntKind.u32 ((0 : Int) - bits BinOp.and IntKind.u32 x0 (1 : Int)))))), (.n (x1)), (.n (x2)), (.i (x3)), (.i (x4)), (.i (IntKind.wrap IntKind.i64 (x5 + (1 : Int)))), (.r (n6) (g6))]))
 (.ok (.exit 2, [(.i (x0)), (.n (x1)), (.n (x2)), (.i (x3)), (.i (x4)), (.r (n6) (g6))]))
def y_crcMore_7 : Nat → Option Nat := syOf3 [21] [] []
def BL_crcMore_7 (l : List At) : Tr (Ex × List At) := B_crcMore_7 (aI l 0) (aN l 1) (aN l 2) (aI l 3) (aI l 4) (aI l 5) (aRn l 6) (aRg l 6)
theorem eB_crcMore_7 (l : List At) : (exec Try.prog Γ_refBytes y_crcMore_7 noLoops 100 (loopAt Try.f56 7) ⟨mkV lsh_crcMore_7 l, mkH lsh_crcMore_7 l⟩).bind (leafL 1 xs_crcMore_7) = BL_crcMore_7 l := by kernel_rfl
/- by hand: O_crcMore_7 (x0 : Int) (x1 : Nat) (x2 : Nat) (x3 : Int) (x4 : Int) (x5 : Int) (n6 : Nat) (g6 : Nat → Nat → Int) : Tr (Ex × List At); OL_crcMore_7 (l) := O_crcMore_7 (aI l 0) (aN l 1) (aN l 2) (aI l 3) (aI l 4) (aI l 5) (aRn l 6) (aRg l 6); μ_crcMore_7 : List At → Nat; rd_crcMore_7 : ∀ l r, (OL_crcMore_7 l).val = some r → RoundA BL_crcMore_7 OL_crcMore_7 μ_crcMore_7 l r -/

/-! ### the loop at 6 of refReg -/

def lsh_refReg_6 : FSh := ⟨[.v false [.k (.n .u32)], .v false [.sq 0 1], .any, .any, .any, .v false [.k (.n .i64)], .v false [.k (.n .i64)], .any, .any, .any, .any, .any, .any, .any, .any, .any, .any, .any, .any, .any, .any, .any, .any, .any, .any, .any, .any, .any, .any, .any, .any, .any, .any, .any], [.rows [.n .u8] false]⟩
def xsh_refReg_6_0 : FSh := ⟨[.v false [.k (.n .u32)], .v false [.sq 0 1], .any, .any, .any, .v false [.k (.n .i64)], .any, .any, .any, .any, .any, .any, .any, .any, .any, .any, .any, .any, .any, .any, .any, .any, .any, .any, .any, .any, .any, .any, .any, .any, .any, .any, .any, .any], [.rows [.n .u8] false]⟩
def xs_refReg_6 : Exs := fun e => match e with
  | .normal => some lsh_refReg_6
  | .exit n => (match Nat.beq n 2 with | true => some xsh_refReg_6_0 | false => none)
  | .ret => none
def B_refReg_6 (x0 : Int) (x1 : Nat) (x2 : Nat) (x3 : Int) (x4 : Int) (n5 : Nat) (g5 : Nat → Nat → Int) : Tr (Ex × List At) :=
 .br 22 (decide (x4 < (8 : Int)))
 (.br 30 (bits BinOp.and IntKind.u32 x0 (1 : Int) == (1 : Int))
 (.ok (.normal, [(.i (bits BinOp.xor IntKind.u32 (Int.fdiv x0 (2 : Int)) (3988292384 : Int))), (.n (x1)), (.n (x2)), (.i (x3)), (.i (IntKind.wrap IntKind.i64 (x4 + (1 : Int)))), (.r (n5) (g5))]))
 (.ok (.normal, [(.i (Int.fdiv x0 (2 : Int))), (.n (x1)), (.n (x2)), (.i (x3)), (.i (IntKind.wrap IntKind.i64 (x4 + (1 : Int)))), (.r (n5) (g5))])))
 (.ok (.exit 2, [(.i (x0)), (.n (x1)), (.n (x2)), (.i (x3)), (.r (n5) (g5))]))
def y_refReg_6 : Nat → Option Nat := syOf3 [22, 30] [] []
def BL_refReg_6 (l : List At) : Tr (Ex × List At) := B_refReg_6 (aI l 0) (aN l 1) (aN l 2) (aI l 3) (aI l 4) (aRn l 5) (aRg l 5)
theorem eB_refReg_6 (l : List At) : (exec Try.prog Γ_refBytes y_refReg_6 noLoops 100 (loopAt Try.f57 6) ⟨mkV lsh_refReg_6 l, mkH lsh_refReg_6 l⟩).bind (leafL 1 xs_refReg_6) = BL_refReg_6 l := by kernel_rfl
/- by hand: O_refReg_6 (x0 : Int) (x1 : Nat) (x2 : Nat) (x3 : Int) (x4 : Int) (n5 : Nat) (g5 : Nat → Nat → Int) : Tr (Ex × List At); OL_refReg_6 (l) := O_refReg_6 (aI l 0) (aN l 1) (aN l 2) (aI l 3) (aI l 4) (aRn l 5) (aRg l 5); μ_refReg_6 : List At → Nat; rd_refReg_6 : ∀ l r, (OL_refReg_6 l).val = some r → RoundA BL_refReg_6 OL_refReg_6 μ_refReg_6 l r -/

end Go.Proofs.Ytgmhggipaopoiaa.G

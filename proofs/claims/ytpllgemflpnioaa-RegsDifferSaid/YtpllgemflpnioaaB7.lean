/-
  What functions of the seat compute, printed by a program from the explorer.
-/
import Derived.Test.YtpllgemflpnioaaG6
import Derived.KernelRfl
namespace Go.Proofs.Ytpllgemflpnioaa.G
open Go Go.AM Go.Proofs
/-! ### the loop at 7 of RegsDiffer -/

def lsh_RegsDiffer_7 : FSh := ⟨[.any, .any, .v false [.p 0 0], .v false [.p 1 0], .any, .any, .v false [.sw 2 1], .v false [.sw 3 1], .v false [.k (.n .i64)], .any, .any, .any, .any, .any, .any, .any, .any, .any, .any, .any, .any, .any, .any, .any, .any, .any, .any, .any, .any, .any, .any, .any, .any, .any, .any, .any, .any, .any, .any, .any, .any, .any, .any, .any, .any, .any, .any, .any, .any, .any, .any, .any, .any, .any], [.cells [.k (.n .u64), .k (.n .u64), .k (.n .u64), .k (.n .u64), .k (.n .u64), .k (.n .u64), .k (.n .u64), .k (.n .u64)], .cells [.k (.n .u64), .k (.n .u64), .k (.n .u64), .k (.n .u64), .k (.n .u64), .k (.n .u64), .k (.n .u64), .k (.n .u64)], .rows [.n .i64] true, .rows [.n .i64] true]⟩
def xsh_RegsDiffer_7_0 : FSh := ⟨[.any, .any, .v false [.p 0 0], .v false [.p 1 0], .any, .any, .v false [.sw 2 1], .v false [.sw 3 1], .any, .any, .any, .any, .any, .any, .any, .any, .any, .any, .any, .any, .any, .any, .any, .any, .any, .any, .any, .any, .any, .any, .any, .any, .any, .any, .any, .any, .any, .any, .any, .any, .any, .any, .any, .any, .any, .any, .any, .any, .any, .any, .any, .any, .any, .any], [.cells [.k (.n .u64), .k (.n .u64), .k (.n .u64), .k (.n .u64), .k (.n .u64), .k (.n .u64), .k (.n .u64), .k (.n .u64)], .cells [.k (.n .u64), .k (.n .u64), .k (.n .u64), .k (.n .u64), .k (.n .u64), .k (.n .u64), .k (.n .u64), .k (.n .u64)], .rows [.n .i64] true, .rows [.n .i64] true]⟩
def xsh_RegsDiffer_7_1 : FSh := ⟨[.any, .any, .v false [.p 0 0], .v false [.p 1 0], .v false [.k .b], .any, .v false [.sw 2 1], .v false [.sw 3 1], .any, .any, .any, .any, .any, .any, .any, .any, .any, .any, .any, .any, .any, .any, .any, .any, .any, .any, .any, .any, .any, .any, .any, .any, .any, .any, .any, .any, .any, .any, .any, .any, .any, .any, .any, .any, .any, .any, .any, .any, .any, .any, .any, .any, .any, .any], [.cells [.k (.n .u64), .k (.n .u64), .k (.n .u64), .k (.n .u64), .k (.n .u64), .k (.n .u64), .k (.n .u64), .k (.n .u64)], .cells [.k (.n .u64), .k (.n .u64), .k (.n .u64), .k (.n .u64), .k (.n .u64), .k (.n .u64), .k (.n .u64), .k (.n .u64)], .rows [.n .i64] true, .rows [.n .i64] true]⟩
def xs_RegsDiffer_7 : Exs := fun e => match e with
  | .normal => some lsh_RegsDiffer_7
  | .exit n => (match Nat.beq n 0 with | true => some xsh_RegsDiffer_7_0 | false => none)
  | .ret => some xsh_RegsDiffer_7_1
def B_RegsDiffer_7 (x0 : Int) (x1 : Int) (x2 : Int) (x3 : Int) (x4 : Int) (x5 : Int) (x6 : Int) (x7 : Int) (x8 : Int) (x9 : Int) (x10 : Int) (x11 : Int) (x12 : Int) (x13 : Int) (x14 : Int) (x15 : Int) (x16 : Int) (n17 : Nat) (g17 : Nat → Nat → Int) (n18 : Nat) (g18 : Nat → Nat → Int) : Tr (Ex × List At) :=
 .br 28 (decide (x0 < (↑n17 : Int)))
 (.br 33 (within x0 n17)
 (.br 37 (within x0 n18)
 (.br 39 (g17 (Int.toNat x0) (0 : Nat) != g18 (Int.toNat x0) (0 : Nat))
 (.ok (.ret, [(.b (false)), (.i (x1)), (.i (x2)), (.i (x3)), (.i (x4)), (.i (x5)), (.i (x6)), (.i (x7)), (.i (x8)), (.i (x9)), (.i (x10)), (.i (x11)), (.i (x12)), (.i (x13)), (.i (x14)), (.i (x15)), (.i (x16)), (.r (n17) (g17)), (.r (n18) (g18))]))
 (.br 42 (within x0 n17)
 (.br 46 (within x0 n17)
 (.br 200048 (within (g17 (Int.toNat x0) (0 : Nat)) (8 : Nat))
 (.br 200050 (within (g17 (Int.toNat x0) (0 : Nat)) (8 : Nat))
 (.ok (.normal, [(.i (IntKind.wrap IntKind.i64 (x0 + (1 : Int)))), (.i (bif Nat.beq (Int.toNat (g17 (Int.toNat x0) (0 : Nat))) (0 : Nat) then List.getD [x9, x10, x11, x12, x13, x14, x15, x16] (Int.toNat (g17 (Int.toNat x0) (0 : Nat))) (0 : Int) else x1)), (.i (bif Nat.beq (Int.toNat (g17 (Int.toNat x0) (0 : Nat))) (1 : Nat) then List.getD [x9, x10, x11, x12, x13, x14, x15, x16] (Int.toNat (g17 (Int.toNat x0) (0 : Nat))) (0 : Int) else x2)), (.i (bif Nat.beq (Int.toNat (g17 (Int.toNat x0) (0 : Nat))) (2 : Nat) then List.getD [x9, x10, x11, x12, x13, x14, x15, x16] (Int.toNat (g17 (Int.toNat x0) (0 : Nat))) (0 : Int) else x3)), (.i (bif Nat.beq (Int.toNat (g17 (Int.toNat x0) (0 : Nat))) (3 : Nat) then List.getD [x9, x10, x11, x12, x13, x14, x15, x16] (Int.toNat (g17 (Int.toNat x0) (0 : Nat))) (0 : Int) else x4)), (.i (bif Nat.beq (Int.toNat (g17 (Int.toNat x0) (0 : Nat))) (4 : Nat) then List.getD [x9, x10, x11, x12, x13, x14, x15, x16] (Int.toNat (g17 (Int.toNat x0) (0 : Nat))) (0 : Int) else x5)), (.i (bif Nat.beq (Int.toNat (g17 (Int.toNat x0) (0 : Nat))) (5 : Nat) then List.getD [x9, x10, x11, x12, x13, x14, x15, x16] (Int.toNat (g17 (Int.toNat x0) (0 : Nat))) (0 : Int) else x6)), (.i (bif Nat.beq (Int.toNat (g17 (Int.toNat x0) (0 : Nat))) (6 : Nat) then List.getD [x9, x10, x11, x12, x13, x14, x15, x16] (Int.toNat (g17 (Int.toNat x0) (0 : Nat))) (0 : Int) else x7)), (.i (bif Nat.beq (Int.toNat (g17 (Int.toNat x0) (0 : Nat))) (7 : Nat) then List.getD [x9, x10, x11, x12, x13, x14, x15, x16] (Int.toNat (g17 (Int.toNat x0) (0 : Nat))) (0 : Int) else x8)), (.i (x9)), (.i (x10)), (.i (x11)), (.i (x12)), (.i (x13)), (.i (x14)), (.i (x15)), (.i (x16)), (.r (n17) (g17)), (.r (n18) (g18))]))
 (.no))
 (.no))
 (.no))
 (.no)))
 (.no))
 (.no))
 (.ok (.exit 0, [(.i (x1)), (.i (x2)), (.i (x3)), (.i (x4)), (.i (x5)), (.i (x6)), (.i (x7)), (.i (x8)), (.i (x9)), (.i (x10)), (.i (x11)), (.i (x12)), (.i (x13)), (.i (x14)), (.i (x15)), (.i (x16)), (.r (n17) (g17)), (.r (n18) (g18))]))
def y_RegsDiffer_7 : Nat → Option Nat := syOf3 [28, 33, 37, 39, 42, 46] [] [48, 50]
def BL_RegsDiffer_7 (l : List At) : Tr (Ex × List At) := B_RegsDiffer_7 (aI l 0) (aI l 1) (aI l 2) (aI l 3) (aI l 4) (aI l 5) (aI l 6) (aI l 7) (aI l 8) (aI l 9) (aI l 10) (aI l 11) (aI l 12) (aI l 13) (aI l 14) (aI l 15) (aI l 16) (aRn l 17) (aRg l 17) (aRn l 18) (aRg l 18)
theorem eB_RegsDiffer_7 (l : List At) : (exec Try.prog Γ_rDiffer y_RegsDiffer_7 noLoops 100 (loopAt Try.f6 7) ⟨mkV lsh_RegsDiffer_7 l, mkH lsh_RegsDiffer_7 l⟩).bind (leafL 0 xs_RegsDiffer_7) = BL_RegsDiffer_7 l := by kernel_rfl
/- by hand: O_RegsDiffer_7 (x0 : Int) (x1 : Int) (x2 : Int) (x3 : Int) (x4 : Int) (x5 : Int) (x6 : Int) (x7 : Int) (x8 : Int) (x9 : Int) (x10 : Int) (x11 : Int) (x12 : Int) (x13 : Int) (x14 : Int) (x15 : Int) (x16 : Int) (n17 : Nat) (g17 : Nat → Nat → Int) (n18 : Nat) (g18 : Nat → Nat → Int) : Tr (Ex × List At); OL_RegsDiffer_7 (l) := O_RegsDiffer_7 (aI l 0) (aI l 1) (aI l 2) (aI l 3) (aI l 4) (aI l 5) (aI l 6) (aI l 7) (aI l 8) (aI l 9) (aI l 10) (aI l 11) (aI l 12) (aI l 13) (aI l 14) (aI l 15) (aI l 16) (aRn l 17) (aRg l 17) (aRn l 18) (aRg l 18); μ_RegsDiffer_7 : List At → Nat; rd_RegsDiffer_7 : ∀ l r, (OL_RegsDiffer_7 l).val = some r → RoundA BL_RegsDiffer_7 OL_RegsDiffer_7 μ_RegsDiffer_7 l r -/

end Go.Proofs.Ytpllgemflpnioaa.G

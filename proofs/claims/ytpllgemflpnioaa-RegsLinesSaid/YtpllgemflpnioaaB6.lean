/-
  What functions of the seat compute, printed by a program from the explorer.
-/
import Derived.Test.YtpllgemflpnioaaG2
import Derived.KernelRfl
namespace Go.Proofs.Ytpllgemflpnioaa.G
open Go Go.AM Go.Proofs
/-! ### the loop at 3 of gDiffer -/

def lsh_gDiffer_3 : FSh := ⟨[.any, .any, .v false [.p 0 0], .v false [.p 1 0], .any, .v false [.sw 2 1], .any, .v false [.k (.n .i64)], .any, .any, .any, .any, .any, .any, .any, .any, .any, .any, .any, .any, .any, .any, .any], [.cells [.k (.n .u64), .k (.n .u64), .k (.n .u64), .k (.n .u64), .k (.n .u64), .k (.n .u64), .k (.n .u64), .k (.n .u64)], .cells [.k (.n .u64), .k (.n .u64), .k (.n .u64), .k (.n .u64), .k (.n .u64), .k (.n .u64), .k (.n .u64), .k (.n .u64)], .rows [.n .i64] true]⟩
def xsh_gDiffer_3_0 : FSh := ⟨[.any, .any, .v false [.p 0 0], .v false [.p 1 0], .any, .v false [.sw 2 1], .any, .any, .any, .any, .any, .any, .any, .any, .any, .any, .any, .any, .any, .any, .any, .any, .any], [.cells [.k (.n .u64), .k (.n .u64), .k (.n .u64), .k (.n .u64), .k (.n .u64), .k (.n .u64), .k (.n .u64), .k (.n .u64)], .cells [.k (.n .u64), .k (.n .u64), .k (.n .u64), .k (.n .u64), .k (.n .u64), .k (.n .u64), .k (.n .u64), .k (.n .u64)], .rows [.n .i64] true]⟩
def xs_gDiffer_3 : Exs := fun e => match e with
  | .normal => some lsh_gDiffer_3
  | .exit n => (match Nat.beq n 0 with | true => some xsh_gDiffer_3_0 | false => none)
  | .ret => none
def B_gDiffer_3 (x0 : Int) (x1 : Int) (x2 : Int) (x3 : Int) (x4 : Int) (x5 : Int) (x6 : Int) (x7 : Int) (x8 : Int) (x9 : Int) (x10 : Int) (x11 : Int) (x12 : Int) (x13 : Int) (x14 : Int) (x15 : Int) (x16 : Int) (n17 : Nat) (g17 : Nat → Nat → Int) : Tr (Ex × List At) :=
 .br 8 (decide (x0 < (8 : Int)))
 (.br 200011 (within x0 (8 : Nat))
 (.br 200014 (within x0 (8 : Nat))
 (.br 16 (List.getD [x1, x2, x3, x4, x5, x6, x7, x8] (Int.toNat x0) (0 : Int) != List.getD [x9, x10, x11, x12, x13, x14, x15, x16] (Int.toNat x0) (0 : Int))
 (.br 20 (decide (n17 + (1 : Nat) ≤ (1073741824 : Nat)))
 (.ok (.normal, [(.i (IntKind.wrap IntKind.i64 (x0 + (1 : Int)))), (.i (x1)), (.i (x2)), (.i (x3)), (.i (x4)), (.i (x5)), (.i (x6)), (.i (x7)), (.i (x8)), (.i (x9)), (.i (x10)), (.i (x11)), (.i (x12)), (.i (x13)), (.i (x14)), (.i (x15)), (.i (x16)), (.r (n17 + (1 : Nat)) (appG g17 n17 (rowsF [[x0]])))]))
 (.no))
 (.ok (.normal, [(.i (IntKind.wrap IntKind.i64 (x0 + (1 : Int)))), (.i (x1)), (.i (x2)), (.i (x3)), (.i (x4)), (.i (x5)), (.i (x6)), (.i (x7)), (.i (x8)), (.i (x9)), (.i (x10)), (.i (x11)), (.i (x12)), (.i (x13)), (.i (x14)), (.i (x15)), (.i (x16)), (.r (n17) (g17))])))
 (.no))
 (.no))
 (.ok (.exit 0, [(.i (x1)), (.i (x2)), (.i (x3)), (.i (x4)), (.i (x5)), (.i (x6)), (.i (x7)), (.i (x8)), (.i (x9)), (.i (x10)), (.i (x11)), (.i (x12)), (.i (x13)), (.i (x14)), (.i (x15)), (.i (x16)), (.r (n17) (g17))]))
def y_gDiffer_3 : Nat → Option Nat := (syOf3 [8, 16, 20] [] [11, 14])
def BL_gDiffer_3 (l : List At) : Tr (Ex × List At) := B_gDiffer_3 (aI l 0) (aI l 1) (aI l 2) (aI l 3) (aI l 4) (aI l 5) (aI l 6) (aI l 7) (aI l 8) (aI l 9) (aI l 10) (aI l 11) (aI l 12) (aI l 13) (aI l 14) (aI l 15) (aI l 16) (aRn l 17) (aRg l 17)
theorem eB_gDiffer_3 (l : List At) : (exec Try.prog Γ_shown y_gDiffer_3 noLoops 100 (loopAt Try.f12 3) ⟨mkV lsh_gDiffer_3 l, mkH lsh_gDiffer_3 l⟩).bind (leafL 0 xs_gDiffer_3) = BL_gDiffer_3 l := by kernel_rfl
/- by hand: O_gDiffer_3 (x0 : Int) (x1 : Int) (x2 : Int) (x3 : Int) (x4 : Int) (x5 : Int) (x6 : Int) (x7 : Int) (x8 : Int) (x9 : Int) (x10 : Int) (x11 : Int) (x12 : Int) (x13 : Int) (x14 : Int) (x15 : Int) (x16 : Int) (n17 : Nat) (g17 : Nat → Nat → Int) : Tr (Ex × List At); OL_gDiffer_3 (l) := O_gDiffer_3 (aI l 0) (aI l 1) (aI l 2) (aI l 3) (aI l 4) (aI l 5) (aI l 6) (aI l 7) (aI l 8) (aI l 9) (aI l 10) (aI l 11) (aI l 12) (aI l 13) (aI l 14) (aI l 15) (aI l 16) (aRn l 17) (aRg l 17); μ_gDiffer_3 : List At → Nat; rd_gDiffer_3 : ∀ l r, (OL_gDiffer_3 l).val = some r → RoundA BL_gDiffer_3 OL_gDiffer_3 μ_gDiffer_3 l r -/

/-! ### the loop at 3 of rDiffer -/

def lsh_rDiffer_3 : FSh := ⟨[.any, .any, .v false [.p 0 0], .v false [.p 1 0], .any, .v false [.sw 2 1], .v false [.k (.n .i64)], .any, .any, .any, .any, .any, .any, .any, .any, .any, .any, .any, .any, .any, .any, .any, .any], [.cells [.k (.n .u64), .k (.n .u64), .k (.n .u64), .k (.n .u64), .k (.n .u64), .k (.n .u64), .k (.n .u64), .k (.n .u64)], .cells [.k (.n .u64), .k (.n .u64), .k (.n .u64), .k (.n .u64), .k (.n .u64), .k (.n .u64), .k (.n .u64), .k (.n .u64)], .rows [.n .i64] true]⟩
def xsh_rDiffer_3_0 : FSh := ⟨[.any, .any, .v false [.p 0 0], .v false [.p 1 0], .any, .v false [.sw 2 1], .any, .any, .any, .any, .any, .any, .any, .any, .any, .any, .any, .any, .any, .any, .any, .any, .any], [.cells [.k (.n .u64), .k (.n .u64), .k (.n .u64), .k (.n .u64), .k (.n .u64), .k (.n .u64), .k (.n .u64), .k (.n .u64)], .cells [.k (.n .u64), .k (.n .u64), .k (.n .u64), .k (.n .u64), .k (.n .u64), .k (.n .u64), .k (.n .u64), .k (.n .u64)], .rows [.n .i64] true]⟩
def xs_rDiffer_3 : Exs := fun e => match e with
  | .normal => some lsh_rDiffer_3
  | .exit n => (match Nat.beq n 0 with | true => some xsh_rDiffer_3_0 | false => none)
  | .ret => none
def B_rDiffer_3 (x0 : Int) (x1 : Int) (x2 : Int) (x3 : Int) (x4 : Int) (x5 : Int) (x6 : Int) (x7 : Int) (x8 : Int) (x9 : Int) (x10 : Int) (x11 : Int) (x12 : Int) (x13 : Int) (x14 : Int) (x15 : Int) (x16 : Int) (n17 : Nat) (g17 : Nat → Nat → Int) : Tr (Ex × List At) :=
 .br 8 (decide (x0 < (8 : Int)))
 (.br 200012 (within x0 (8 : Nat))
 (.br 200015 (within x0 (8 : Nat))
 (.br 17 (List.getD [x1, x2, x3, x4, x5, x6, x7, x8] (Int.toNat x0) (0 : Int) != List.getD [x9, x10, x11, x12, x13, x14, x15, x16] (Int.toNat x0) (0 : Int))
 (.br 21 (decide (n17 + (1 : Nat) ≤ (1073741824 : Nat)))
 (.ok (.normal, [(.i (IntKind.wrap IntKind.i64 (x0 + (1 : Int)))), (.i (x1)), (.i (x2)), (.i (x3)), (.i (x4)), (.i (x5)), (.i (x6)), (.i (x7)), (.i (x8)), (.i (x9)), (.i (x10)), (.i (x11)), (.i (x12)), (.i (x13)), (.i (x14)), (.i (x15)), (.i (x16)), (.r (n17 + (1 : Nat)) (appG g17 n17 (rowsF [[x0]])))]))
 (.no))
 (.ok (.normal, [(.i (IntKind.wrap IntKind.i64 (x0 + (1 : Int)))), (.i (x1)), (.i (x2)), (.i (x3)), (.i (x4)), (.i (x5)), (.i (x6)), (.i (x7)), (.i (x8)), (.i (x9)), (.i (x10)), (.i (x11)), (.i (x12)), (.i (x13)), (.i (x14)), (.i (x15)), (.i (x16)), (.r (n17) (g17))])))
 (.no))
 (.no))
 (.ok (.exit 0, [(.i (x1)), (.i (x2)), (.i (x3)), (.i (x4)), (.i (x5)), (.i (x6)), (.i (x7)), (.i (x8)), (.i (x9)), (.i (x10)), (.i (x11)), (.i (x12)), (.i (x13)), (.i (x14)), (.i (x15)), (.i (x16)), (.r (n17) (g17))]))
def y_rDiffer_3 : Nat → Option Nat := (syOf3 [8, 17, 21] [] [12, 15])
def BL_rDiffer_3 (l : List At) : Tr (Ex × List At) := B_rDiffer_3 (aI l 0) (aI l 1) (aI l 2) (aI l 3) (aI l 4) (aI l 5) (aI l 6) (aI l 7) (aI l 8) (aI l 9) (aI l 10) (aI l 11) (aI l 12) (aI l 13) (aI l 14) (aI l 15) (aI l 16) (aRn l 17) (aRg l 17)
theorem eB_rDiffer_3 (l : List At) : (exec Try.prog Γ_shown y_rDiffer_3 noLoops 100 (loopAt Try.f13 3) ⟨mkV lsh_rDiffer_3 l, mkH lsh_rDiffer_3 l⟩).bind (leafL 0 xs_rDiffer_3) = BL_rDiffer_3 l := by kernel_rfl
/- by hand: O_rDiffer_3 (x0 : Int) (x1 : Int) (x2 : Int) (x3 : Int) (x4 : Int) (x5 : Int) (x6 : Int) (x7 : Int) (x8 : Int) (x9 : Int) (x10 : Int) (x11 : Int) (x12 : Int) (x13 : Int) (x14 : Int) (x15 : Int) (x16 : Int) (n17 : Nat) (g17 : Nat → Nat → Int) : Tr (Ex × List At); OL_rDiffer_3 (l) := O_rDiffer_3 (aI l 0) (aI l 1) (aI l 2) (aI l 3) (aI l 4) (aI l 5) (aI l 6) (aI l 7) (aI l 8) (aI l 9) (aI l 10) (aI l 11) (aI l 12) (aI l 13) (aI l 14) (aI l 15) (aI l 16) (aRn l 17) (aRg l 17); μ_rDiffer_3 : List At → Nat; rd_rDiffer_3 : ∀ l r, (OL_rDiffer_3 l).val = some r → RoundA BL_rDiffer_3 OL_rDiffer_3 μ_rDiffer_3 l r -/

end Go.Proofs.Ytpllgemflpnioaa.G

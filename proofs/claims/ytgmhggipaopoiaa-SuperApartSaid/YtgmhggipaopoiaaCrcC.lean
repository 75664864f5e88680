/-
  What functions of the seat compute, printed by a program from the explorer.
-/
import Derived.Test.YtgmhggipaopoiaaCrcO
import Derived.KernelRfl
namespace Go.Proofs.Ytgmhggipaopoiaa.G
open Go Go.AM Go.Proofs
theorem f_crcMore_7 : LoopF Try.prog 1 (loopAt Try.f56 7) (loopFn 1 lsh_crcMore_7 xs_crcMore_7 OL_crcMore_7) :=
  loop_loc (sy := y_crcMore_7) (fuel := 100) (Lp := noLoops) o_refBytes mixed (loopsOK_at (noLoops_ok _) 7) rfl eB_crcMore_7 rd_crcMore_7
def Lp_crcMore_7 : Loops := Loops.set noLoops 7 (loopFn 1 lsh_crcMore_7 xs_crcMore_7 OL_crcMore_7)
theorem lk_crcMore_7 : LoopsFn Try.prog 1 Lp_crcMore_7 Try.f56 := loopsFn_set (noLoops_ok _) (by kernel_rfl) f_crcMore_7

theorem f_refReg_6 : LoopF Try.prog 1 (loopAt Try.f57 6) (loopFn 1 lsh_refReg_6 xs_refReg_6 OL_refReg_6) :=
  loop_loc (sy := y_refReg_6) (fuel := 100) (Lp := noLoops) o_refBytes mixed (loopsOK_at (noLoops_ok _) 6) rfl eB_refReg_6 rd_refReg_6
def Lp_refReg_6 : Loops := Loops.set noLoops 6 (loopFn 1 lsh_refReg_6 xs_refReg_6 OL_refReg_6)
theorem lk_refReg_6 : LoopsFn Try.prog 1 Lp_refReg_6 Try.f57 := loopsFn_set (noLoops_ok _) (by kernel_rfl) f_refReg_6

/-! ### the loop at 3 of crcMore -/

def lsh_crcMore_3 : FSh := ⟨[.any, .any, .any, .any, .any, .v false [.k (.n .u32)], .any, .any, .any, .any, .v false [.sq 0 1], .v false [.k (.n .i64)], .v false [.k (.n .i64)], .any, .any, .any, .any, .any, .any, .any, .any, .any, .any, .any, .any, .any, .any, .any, .any, .any, .any, .any, .any], [.rows [.n .u8] false]⟩
def xsh_crcMore_3_0 : FSh := ⟨[.any, .any, .any, .any, .any, .v false [.k (.n .u32)], .any, .any, .any, .any, .any, .any, .any, .any, .any, .any, .any, .any, .any, .any, .any, .any, .any, .any, .any, .any, .any, .any, .any, .any, .any, .any, .any], [.no]⟩
def xs_crcMore_3 : Exs := fun e => match e with
  | .normal => some lsh_crcMore_3
  | .exit n => (match Nat.beq n 0 with | true => some xsh_crcMore_3_0 | false => none)
  | .ret => none
def crcMore_3_c0 (x0 : Int) (x1 : Nat) (x2 : Nat) (x3 : Int) (x4 : Int) (n5 : Nat) (g5 : Nat → Nat → Int) : Int := aI ([] ++ ([] ++ ([] ++ ([] ++ ([] ++ ([At.i (bits BinOp.xor IntKind.u32 x0 (IntKind.wrap IntKind.u32 (g5 (x1 + Int.toNat x4) (0 : Nat))))] ++ ([] ++ ([] ++ ([] ++ ([] ++ ([At.n x1, At.n x2] ++ ([At.i x3] ++ ([At.i x4] ++ ([] ++ ([] ++ ([] ++ ([] ++ ([] ++ ([] ++ ([] ++ ([At.i (0 : Int)] ++ ([] ++ ([] ++ ([] ++ ([] ++ ([] ++ ([] ++ ([] ++ ([] ++ ([] ++ ([] ++ ([] ++ ([] ++ [])))))))))))))))))))))))))))))))) ++ ([At.r n5 g5] ++ [])) (5 : Nat)
def B_crcMore_3 (x0 : Int) (x1 : Nat) (x2 : Nat) (x3 : Int) (x4 : Int) (n5 : Nat) (g5 : Nat → Nat → Int) : Tr (Ex × List At) :=
 .br 13 (decide (x4 < x3))
 (.br 14 (within x4 x2)
 (.br 0 (decide ((0 : Int) ≤ (0 : Int)) && decide ((0 : Int) ≤ (8 : Int)))
 (.ok (.normal, [(.i (iter crcStep (8 : Nat) (bits BinOp.xor IntKind.u32 x0 (IntKind.wrap IntKind.u32 (g5 (x1 + Int.toNat x4) (0 : Nat)))))), (.n (x1)), (.n (x2)), (.i (x3)), (.i (IntKind.wrap IntKind.i64 (x4 + (1 : Int)))), (.r (n5) (g5))]))
 (.no))
 (.no))
 (.ok (.exit 0, [(.i (x0))]))
def y_crcMore_3 : Nat → Option Nat := syOf3 [13, 14] [] []
def BL_crcMore_3 (l : List At) : Tr (Ex × List At) := B_crcMore_3 (aI l 0) (aN l 1) (aN l 2) (aI l 3) (aI l 4) (aRn l 5) (aRg l 5)
theorem eB_crcMore_3 (l : List At) : (exec Try.prog Γ_refBytes y_crcMore_3 Lp_crcMore_7 100 (loopAt Try.f56 3) ⟨mkV lsh_crcMore_3 l, mkH lsh_crcMore_3 l⟩).bind (leafL 1 xs_crcMore_3) = BL_crcMore_3 l := by kernel_rfl
/- by hand: O_crcMore_3 (x0 : Int) (x1 : Nat) (x2 : Nat) (x3 : Int) (x4 : Int) (n5 : Nat) (g5 : Nat → Nat → Int) : Tr (Ex × List At); OL_crcMore_3 (l) := O_crcMore_3 (aI l 0) (aN l 1) (aN l 2) (aI l 3) (aI l 4) (aRn l 5) (aRg l 5); μ_crcMore_3 : List At → Nat; rd_crcMore_3 : ∀ l r, (OL_crcMore_3 l).val = some r → RoundA BL_crcMore_3 OL_crcMore_3 μ_crcMore_3 l r -/

/-! ### the loop at 2 of refReg -/

def lsh_refReg_2 : FSh := ⟨[.v false [.k (.n .u32)], .v false [.sq 0 1], .any, .any, .any, .v false [.k (.n .i64)], .any, .any, .any, .any, .any, .any, .any, .any, .any, .any, .any, .any, .any, .any, .any, .any, .any, .any, .any, .any, .any, .any, .any, .any, .any, .any, .any, .any], [.rows [.n .u8] false]⟩
def xsh_refReg_2_0 : FSh := ⟨[.v false [.k (.n .u32)], .any, .any, .any, .any, .any, .any, .any, .any, .any, .any, .any, .any, .any, .any, .any, .any, .any, .any, .any, .any, .any, .any, .any, .any, .any, .any, .any, .any, .any, .any, .any, .any, .any], [.no]⟩
def xs_refReg_2 : Exs := fun e => match e with
  | .normal => some lsh_refReg_2
  | .exit n => (match Nat.beq n 0 with | true => some xsh_refReg_2_0 | false => none)
  | .ret => none
def refReg_2_c0 (x0 : Int) (x1 : Nat) (x2 : Nat) (x3 : Int) (n4 : Nat) (g4 : Nat → Nat → Int) : Int := aI ([At.i (bits BinOp.xor IntKind.u32 x0 (IntKind.wrap IntKind.u32 (g4 (x1 + Int.toNat x3) (0 : Nat))))] ++ ([At.n x1, At.n x2] ++ ([] ++ ([] ++ ([] ++ ([At.i x3] ++ ([At.i (0 : Int)] ++ ([] ++ ([] ++ ([] ++ ([] ++ ([] ++ ([] ++ ([] ++ ([] ++ ([] ++ ([] ++ ([] ++ ([] ++ ([] ++ ([] ++ ([] ++ ([] ++ ([] ++ ([] ++ ([] ++ ([] ++ ([] ++ ([] ++ ([] ++ ([] ++ ([] ++ ([] ++ ([] ++ []))))))))))))))))))))))))))))))))) ++ ([At.r n4 g4] ++ [])) (4 : Nat)
def B_refReg_2 (x0 : Int) (x1 : Nat) (x2 : Nat) (x3 : Int) (n4 : Nat) (g4 : Nat → Nat → Int) : Tr (Ex × List At) :=
 .br 11 (decide (x3 < (↑x2 : Int)))
 (.br 17 (within x3 x2)
 (.br 0 (decide ((0 : Int) ≤ (0 : Int)) && decide ((0 : Int) ≤ (8 : Int)))
 (.ok (.normal, [(.i (iter refStep (8 : Nat) (bits BinOp.xor IntKind.u32 x0 (IntKind.wrap IntKind.u32 (g4 (x1 + Int.toNat x3) (0 : Nat)))))), (.n (x1)), (.n (x2)), (.i (IntKind.wrap IntKind.i64 (x3 + (1 : Int)))), (.r (n4) (g4))]))
 (.no))
 (.no))
 (.ok (.exit 0, [(.i (x0))]))
def y_refReg_2 : Nat → Option Nat := syOf3 [11, 17] [] []
def BL_refReg_2 (l : List At) : Tr (Ex × List At) := B_refReg_2 (aI l 0) (aN l 1) (aN l 2) (aI l 3) (aRn l 4) (aRg l 4)
theorem eB_refReg_2 (l : List At) : (exec Try.prog Γ_refBytes y_refReg_2 Lp_refReg_6 100 (loopAt Try.f57 2) ⟨mkV lsh_refReg_2 l, mkH lsh_refReg_2 l⟩).bind (leafL 1 xs_refReg_2) = BL_refReg_2 l := by kernel_rfl
/- by hand: O_refReg_2 (x0 : Int) (x1 : Nat) (x2 : Nat) (x3 : Int) (n4 : Nat) (g4 : Nat → Nat → Int) : Tr (Ex × List At); OL_refReg_2 (l) := O_refReg_2 (aI l 0) (aN l 1) (aN l 2) (aI l 3) (aRn l 4) (aRg l 4); μ_refReg_2 : List At → Nat; rd_refReg_2 : ∀ l r, (OL_refReg_2 l).val = some r → RoundA BL_refReg_2 OL_refReg_2 μ_refReg_2 l r -/

end Go.Proofs.Ytgmhggipaopoiaa.G

/-
  What functions of the seat compute, printed by a program from the explorer.
-/
import Derived.Test.YtpllgemflpnioaaB7O
import Derived.KernelRfl
namespace Go.Proofs.Ytpllgemflpnioaa.G
open Go Go.AM Go.Proofs
theorem f_RegsDiffer_7 : LoopF Try.prog 0 (loopAt Try.f6 7) (loopFn 0 lsh_RegsDiffer_7 xs_RegsDiffer_7 OL_RegsDiffer_7) :=
  loop_loc (sy := y_RegsDiffer_7) (fuel := 100) (Lp := noLoops) o_rDiffer mixed (loopsOK_at (noLoops_ok _) 7) rfl eB_RegsDiffer_7 rd_RegsDiffer_7
def Lp_RegsDiffer_7 : Loops := Loops.set noLoops 7 (loopFn 0 lsh_RegsDiffer_7 xs_RegsDiffer_7 OL_RegsDiffer_7)
theorem lk_RegsDiffer_7 : LoopsFn Try.prog 0 Lp_RegsDiffer_7 Try.f6 := loopsFn_set (noLoops_ok _) (by kernel_rfl) f_RegsDiffer_7

/-! ### RegsDiffer -/

def ish_RegsDiffer : FSh := ⟨[.v true [.k (.n .u64), .k (.n .u64), .k (.n .u64), .k (.n .u64), .k (.n .u64), .k (.n .u64), .k (.n .u64), .k (.n .u64)], .v true [.k (.n .u64), .k (.n .u64), .k (.n .u64), .k (.n .u64), .k (.n .u64), .k (.n .u64), .k (.n .u64), .k (.n .u64)]], []⟩
def osh_RegsDiffer : FSh := ⟨[.v false [.k .b]], []⟩
def T_RegsDiffer (x0 : Int) (x1 : Int) (x2 : Int) (x3 : Int) (x4 : Int) (x5 : Int) (x6 : Int) (x7 : Int) (x8 : Int) (x9 : Int) (x10 : Int) (x11 : Int) (x12 : Int) (x13 : Int) (x14 : Int) (x15 : Int) : Tr (List At) :=
 .br 0 (true)
 (.br 0 (ok_gDiffer x0 x1 x2 x3 x4 x5 x6 x7 x8 x9 x10 x11 x12 x13 x14 x15)
 (.br 0 (ok_rDiffer x0 x1 x2 x3 x4 x5 x6 x7 x8 x9 x10 x11 x12 x13 x14 x15)
 (.br 24 ((↑(rn_gDiffer_0 x0 x1 x2 x3 x4 x5 x6 x7 x8 x9 x10 x11 x12 x13 x14 x15) : Int) != (↑(rn_rDiffer_0 x0 x1 x2 x3 x4 x5 x6 x7 x8 x9 x10 x11 x12 x13 x14 x15) : Int))
 (.ok [(.b (false))])
 (.br 0 (okD [x0, x1, x2, x3, x4, x5, x6, x7] [x8, x9, x10, x11, x12, x13, x14, x15] (0 : Int) (rn_gDiffer_0 x0 x1 x2 x3 x4 x5 x6 x7 x8 x9 x10 x11 x12 x13 x14 x15) (fun (a c : Nat) => rg_gDiffer_0 x0 x1 x2 x3 x4 x5 x6 x7 x8 x9 x10 x11 x12 x13 x14 x15 a c) (rn_rDiffer_0 x0 x1 x2 x3 x4 x5 x6 x7 x8 x9 x10 x11 x12 x13 x14 x15) fun (a c : Nat) => rg_rDiffer_0 x0 x1 x2 x3 x4 x5 x6 x7 x8 x9 x10 x11 x12 x13 x14 x15 a c)
 (.ok [(.b (x8 == x8 && (x9 == x9 && (x10 == x10 && (x11 == x11 && (x12 == x12 && (x13 == x13 && (x14 == x14 && (x15 == x15 && true)))))))))])
 (.no)))
 (.no))
 (.no))
 (.no)
def y_RegsDiffer : Nat → Option Nat := syOf3 [24] [] []
def TL_RegsDiffer (l : List At) : Tr (List At) := T_RegsDiffer (aI l 0) (aI l 1) (aI l 2) (aI l 3) (aI l 4) (aI l 5) (aI l 6) (aI l 7) (aI l 8) (aI l 9) (aI l 10) (aI l 11) (aI l 12) (aI l 13) (aI l 14) (aI l 15)
theorem e_RegsDiffer (l : List At) : (call Try.prog Γ_rDiffer y_RegsDiffer Lp_RegsDiffer_7 100 Try.f6 (mkV ish_RegsDiffer l) (mkH ish_RegsDiffer l)).bind (leafO ish_RegsDiffer.hp.length ⟨[.v false [.k .b]], List.replicate ish_RegsDiffer.hp.length .no⟩) = TL_RegsDiffer l := by kernel_rfl

end Go.Proofs.Ytpllgemflpnioaa.G

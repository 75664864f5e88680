/-
  What functions of the seat compute, printed by a program from the explorer.
-/
import Derived.Test.YtgmhggipaopoiaaG1
import Derived.KernelRfl
namespace Go.Proofs.Ytgmhggipaopoiaa.G
open Go Go.AM Go.Proofs
/-! ### SuperBest -/

def ish_SuperBest : FSh := ⟨[.v true [.k (.n .u64), .k (.n .u64), .k (.n .u64), .k (.n .u64), .k (.n .u64), .k (.n .u64), .k (.n .u64), .k (.n .u64)], .v true [.k (.n .u64), .k (.n .u64), .k (.n .u64), .k (.n .u64), .k (.n .u64), .k (.n .u64), .k (.n .u64), .k (.n .u64)]], []⟩
def osh_SuperBest : FSh := ⟨[.v false [.k .b]], []⟩
def T_SuperBest (x0 : Int) (x1 : Int) (x2 : Int) (x3 : Int) (x4 : Int) (x5 : Int) (x6 : Int) (x7 : Int) (x8 : Int) (x9 : Int) (x10 : Int) (x11 : Int) (x12 : Int) (x13 : Int) (x14 : Int) (x15 : Int) : Tr (List At) :=
 .br 0 (true)
 (.br 0 (ok_sBest x0 x1 x2 x3 x4 x5 x6 x7 x8 x9 x10 x11 x12 x13 x14 x15)
 (.br 0 (ok_rBest x0 x1 x2 x3 x4 x5 x6 x7 x8 x9 x10 x11 x12 x13 x14 x15)
 (.br 33 (r_sBest_0 x0 x1 x2 x3 x4 x5 x6 x7 x8 x9 x10 x11 x12 x13 x14 x15 == r_rBest_0 x0 x1 x2 x3 x4 x5 x6 x7 x8 x9 x10 x11 x12 x13 x14 x15 && (r_sBest_1 x0 x1 x2 x3 x4 x5 x6 x7 x8 x9 x10 x11 x12 x13 x14 x15 == r_rBest_1 x0 x1 x2 x3 x4 x5 x6 x7 x8 x9 x10 x11 x12 x13 x14 x15 && (r_sBest_2 x0 x1 x2 x3 x4 x5 x6 x7 x8 x9 x10 x11 x12 x13 x14 x15 == r_rBest_2 x0 x1 x2 x3 x4 x5 x6 x7 x8 x9 x10 x11 x12 x13 x14 x15 && (r_sBest_3 x0 x1 x2 x3 x4 x5 x6 x7 x8 x9 x10 x11 x12 x13 x14 x15 == r_rBest_3 x0 x1 x2 x3 x4 x5 x6 x7 x8 x9 x10 x11 x12 x13 x14 x15 && true))))
 (.br 38 (r_sBest_4 x0 x1 x2 x3 x4 x5 x6 x7 x8 x9 x10 x11 x12 x13 x14 x15 == r_rBest_4 x0 x1 x2 x3 x4 x5 x6 x7 x8 x9 x10 x11 x12 x13 x14 x15)
 (.ok [(.b (r_sBest_5 x0 x1 x2 x3 x4 x5 x6 x7 x8 x9 x10 x11 x12 x13 x14 x15 == r_rBest_5 x0 x1 x2 x3 x4 x5 x6 x7 x8 x9 x10 x11 x12 x13 x14 x15))])
 (.ok [(.b (false))]))
 (.ok [(.b (false))]))
 (.no))
 (.no))
 (.no)
def y_SuperBest : Nat → Option Nat := syOf3 [33, 38] [] []
def TL_SuperBest (l : List At) : Tr (List At) := T_SuperBest (aI l 0) (aI l 1) (aI l 2) (aI l 3) (aI l 4) (aI l 5) (aI l 6) (aI l 7) (aI l 8) (aI l 9) (aI l 10) (aI l 11) (aI l 12) (aI l 13) (aI l 14) (aI l 15)
theorem e_SuperBest (l : List At) : (call Try.prog Γ_shown y_SuperBest noLoops 100 Try.f4 (mkV ish_SuperBest l) (mkH ish_SuperBest l)).bind (leafO ish_SuperBest.hp.length ⟨[.v false [.k .b]], List.replicate ish_SuperBest.hp.length .no⟩) = TL_SuperBest l := by kernel_rfl

end Go.Proofs.Ytgmhggipaopoiaa.G

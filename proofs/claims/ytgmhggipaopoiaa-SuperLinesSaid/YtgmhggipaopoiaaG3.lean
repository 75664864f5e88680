/-
  What functions of the seat compute, printed by a program from the explorer.
-/
import Derived.Test.YtgmhggipaopoiaaG1
import Derived.KernelRfl
namespace Go.Proofs.Ytgmhggipaopoiaa.G
open Go Go.AM Go.Proofs
/-! ### SuperLines -/

def ish_SuperLines : FSh := ⟨[.v true [.k (.n .i64), .k (.n .i64), .k (.n .i64), .k (.n .i64)], .v true [.k (.n .u64), .k (.n .u64), .k (.n .u64), .k (.n .u64), .k (.n .u64), .k (.n .u64), .k (.n .u64), .k (.n .u64)]], []⟩
def osh_SuperLines : FSh := ⟨[.v false [.k .b]], []⟩
def T_SuperLines (x0 : Int) (x1 : Int) (x2 : Int) (x3 : Int) (x4 : Int) (x5 : Int) (x6 : Int) (x7 : Int) (x8 : Int) (x9 : Int) (x10 : Int) (x11 : Int) : Tr (List At) :=
 .br 0 (true)
 (.br 0 (ok_sLine x0 x1 x2 x3)
 (.br 0 (ok_rLine x0 x1 x2 x3)
 (.br 0 (ok_sRead x4 x5 x6 x7 x8 x9 x10 x11)
 (.br 0 (ok_rRead x4 x5 x6 x7 x8 x9 x10 x11)
 (.br 41 (r_sLine_0 x0 x1 x2 x3 == r_rLine_0 x0 x1 x2 x3 && (r_sLine_1 x0 x1 x2 x3 == r_rLine_1 x0 x1 x2 x3 && (r_sLine_2 x0 x1 x2 x3 == r_rLine_2 x0 x1 x2 x3 && (r_sLine_3 x0 x1 x2 x3 == r_rLine_3 x0 x1 x2 x3 && (r_sLine_4 x0 x1 x2 x3 == r_rLine_4 x0 x1 x2 x3 && (r_sLine_5 x0 x1 x2 x3 == r_rLine_5 x0 x1 x2 x3 && (r_sLine_6 x0 x1 x2 x3 == r_rLine_6 x0 x1 x2 x3 && (r_sLine_7 x0 x1 x2 x3 == r_rLine_7 x0 x1 x2 x3 && true))))))))
 (.br 46 (r_sLine_8 x0 x1 x2 x3 == r_rLine_8 x0 x1 x2 x3)
 (.br 51 (r_sRead_0 x4 x5 x6 x7 x8 x9 x10 x11 == r_rRead_0 x4 x5 x6 x7 x8 x9 x10 x11 && (r_sRead_1 x4 x5 x6 x7 x8 x9 x10 x11 == r_rRead_1 x4 x5 x6 x7 x8 x9 x10 x11 && (r_sRead_2 x4 x5 x6 x7 x8 x9 x10 x11 == r_rRead_2 x4 x5 x6 x7 x8 x9 x10 x11 && (r_sRead_3 x4 x5 x6 x7 x8 x9 x10 x11 == r_rRead_3 x4 x5 x6 x7 x8 x9 x10 x11 && true))))
 (.ok [(.b (r_sRead_4 x4 x5 x6 x7 x8 x9 x10 x11 == r_rRead_4 x4 x5 x6 x7 x8 x9 x10 x11))])
 (.ok [(.b (false))]))
 (.ok [(.b (false))]))
 (.ok [(.b (false))]))
 (.no))
 (.no))
 (.no))
 (.no))
 (.no)
def y_SuperLines : Nat → Option Nat := syOf3 [41, 46, 51] [] []
def TL_SuperLines (l : List At) : Tr (List At) := T_SuperLines (aI l 0) (aI l 1) (aI l 2) (aI l 3) (aI l 4) (aI l 5) (aI l 6) (aI l 7) (aI l 8) (aI l 9) (aI l 10) (aI l 11)
theorem e_SuperLines (l : List At) : (call Try.prog Γ_shown y_SuperLines noLoops 100 Try.f3 (mkV ish_SuperLines l) (mkH ish_SuperLines l)).bind (leafO ish_SuperLines.hp.length ⟨[.v false [.k .b]], List.replicate ish_SuperLines.hp.length .no⟩) = TL_SuperLines l := by kernel_rfl

end Go.Proofs.Ytgmhggipaopoiaa.G

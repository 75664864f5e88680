/-
  What functions of the seat compute, printed by a program from the explorer.
-/
import Derived.Test.YtgmhggipaopoiaaG1
import Derived.KernelRfl
namespace Go.Proofs.Ytgmhggipaopoiaa.G
open Go Go.AM Go.Proofs
/-! ### SuperBack -/

def ish_SuperBack : FSh := ⟨[.v true [.k (.n .i64), .k (.n .i64), .k (.n .i64), .k (.n .i64)]], []⟩
def osh_SuperBack : FSh := ⟨[.v false [.k .b]], []⟩
def T_SuperBack (x0 : Int) (x1 : Int) (x2 : Int) (x3 : Int) : Tr (List At) :=
 .br 0 (true)
 (.br 0 (ok_sLine x0 x1 x2 x3)
 (.br 15 (r_sLine_8 x0 x1 x2 x3 != (0 : Int))
 (.ok [(.b (r_sLine_0 x0 x1 x2 x3 == (0 : Int) && (r_sLine_1 x0 x1 x2 x3 == (0 : Int) && (r_sLine_2 x0 x1 x2 x3 == (0 : Int) && (r_sLine_3 x0 x1 x2 x3 == (0 : Int) && (r_sLine_4 x0 x1 x2 x3 == (0 : Int) && (r_sLine_5 x0 x1 x2 x3 == (0 : Int) && (r_sLine_6 x0 x1 x2 x3 == (0 : Int) && (r_sLine_7 x0 x1 x2 x3 == (0 : Int) && true)))))))))])
 (.br 0 (ok_sRead (r_sLine_0 x0 x1 x2 x3) (r_sLine_1 x0 x1 x2 x3) (r_sLine_2 x0 x1 x2 x3) (r_sLine_3 x0 x1 x2 x3) (r_sLine_4 x0 x1 x2 x3) (r_sLine_5 x0 x1 x2 x3) (r_sLine_6 x0 x1 x2 x3) (r_sLine_7 x0 x1 x2 x3))
 (.br 31 (r_sRead_4 (r_sLine_0 x0 x1 x2 x3) (r_sLine_1 x0 x1 x2 x3) (r_sLine_2 x0 x1 x2 x3) (r_sLine_3 x0 x1 x2 x3) (r_sLine_4 x0 x1 x2 x3) (r_sLine_5 x0 x1 x2 x3) (r_sLine_6 x0 x1 x2 x3) (r_sLine_7 x0 x1 x2 x3))
 (.br 36 (r_sRead_0 (r_sLine_0 x0 x1 x2 x3) (r_sLine_1 x0 x1 x2 x3) (r_sLine_2 x0 x1 x2 x3) (r_sLine_3 x0 x1 x2 x3) (r_sLine_4 x0 x1 x2 x3) (r_sLine_5 x0 x1 x2 x3) (r_sLine_6 x0 x1 x2 x3) (r_sLine_7 x0 x1 x2 x3) == x0 && (r_sRead_1 (r_sLine_0 x0 x1 x2 x3) (r_sLine_1 x0 x1 x2 x3) (r_sLine_2 x0 x1 x2 x3) (r_sLine_3 x0 x1 x2 x3) (r_sLine_4 x0 x1 x2 x3) (r_sLine_5 x0 x1 x2 x3) (r_sLine_6 x0 x1 x2 x3) (r_sLine_7 x0 x1 x2 x3) == x1 && (r_sRead_2 (r_sLine_0 x0 x1 x2 x3) (r_sLine_1 x0 x1 x2 x3) (r_sLine_2 x0 x1 x2 x3) (r_sLine_3 x0 x1 x2 x3) (r_sLine_4 x0 x1 x2 x3) (r_sLine_5 x0 x1 x2 x3) (r_sLine_6 x0 x1 x2 x3) (r_sLine_7 x0 x1 x2 x3) == x2 && (r_sRead_3 (r_sLine_0 x0 x1 x2 x3) (r_sLine_1 x0 x1 x2 x3) (r_sLine_2 x0 x1 x2 x3) (r_sLine_3 x0 x1 x2 x3) (r_sLine_4 x0 x1 x2 x3) (r_sLine_5 x0 x1 x2 x3) (r_sLine_6 x0 x1 x2 x3) (r_sLine_7 x0 x1 x2 x3) == x3 && true))))
 (.br 0 (ok_crcGood (r_sLine_0 x0 x1 x2 x3) (r_sLine_1 x0 x1 x2 x3) (r_sLine_2 x0 x1 x2 x3) (r_sLine_3 x0 x1 x2 x3) (r_sLine_4 x0 x1 x2 x3) (r_sLine_5 x0 x1 x2 x3) (r_sLine_6 x0 x1 x2 x3) (r_sLine_7 x0 x1 x2 x3))
 (.ok [(.b (r_crcGood_0 (r_sLine_0 x0 x1 x2 x3) (r_sLine_1 x0 x1 x2 x3) (r_sLine_2 x0 x1 x2 x3) (r_sLine_3 x0 x1 x2 x3) (r_sLine_4 x0 x1 x2 x3) (r_sLine_5 x0 x1 x2 x3) (r_sLine_6 x0 x1 x2 x3) (r_sLine_7 x0 x1 x2 x3)))])
 (.no))
 (.ok [(.b (false))]))
 (.ok [(.b (false))]))
 (.no)))
 (.no))
 (.no)
def y_SuperBack : Nat → Option Nat := syOf3 [15, 31, 36] [] []
def TL_SuperBack (l : List At) : Tr (List At) := T_SuperBack (aI l 0) (aI l 1) (aI l 2) (aI l 3)
theorem e_SuperBack (l : List At) : (call Try.prog Γ_shown y_SuperBack noLoops 100 Try.f5 (mkV ish_SuperBack l) (mkH ish_SuperBack l)).bind (leafO ish_SuperBack.hp.length ⟨[.v false [.k .b]], List.replicate ish_SuperBack.hp.length .no⟩) = TL_SuperBack l := by kernel_rfl

end Go.Proofs.Ytgmhggipaopoiaa.G

/-
  What functions of the seat compute, printed by a program from the explorer.
-/
import Derived.Test.YtpllgemflpnioaaSA
import Derived.KernelRfl
namespace Go.Proofs.Ytpllgemflpnioaa.G
open Go Go.AM Go.Proofs
/-! ### qOf -/

def ish_qOf : FSh := ⟨[.v true [.k (.n .u64), .k (.n .u64), .k (.n .u64), .k (.n .u64), .k (.n .u64), .k (.n .u64), .k (.n .u64), .k (.n .u64)]], []⟩
def osh_qOf : FSh := ⟨[.tup [(true, [.k (.n .i64), .k (.n .u64), .k (.n .u64), .k (.n .u64), .k (.n .u64), .k (.n .u64), .k (.n .u64), .k (.n .i64), .k (.n .i64), .k (.n .i64), .k (.n .i64)]), (false, [.k .b])]], []⟩
def T_qOf (x0 : Int) (x1 : Int) (x2 : Int) (x3 : Int) (x4 : Int) (x5 : Int) (x6 : Int) (x7 : Int) : Tr (List At) :=
 .br 29 (r_rNumber_1 x0 (1099511627776 : Int) != (0 : Int))
 (.ok [(.i ((0 : Int))), (.i ((0 : Int))), (.i ((0 : Int))), (.i ((0 : Int))), (.i ((0 : Int))), (.i ((0 : Int))), (.i ((0 : Int))), (.i ((0 : Int))), (.i ((0 : Int))), (.i ((0 : Int))), (.i ((0 : Int))), (.b (false))])
 (.br 0 (ok_rField x7 (0 : Int) (4 : Int))
 (.br 0 (ok_rField x7 (4 : Int) (16 : Int))
 (.br 0 (ok_rField x7 (20 : Int) (4 : Int))
 (.br 0 (ok_rField x7 (24 : Int) (1 : Int))
 (.br 60 (r_gLine_8 (r_rNumber_0 x0 (1099511627776 : Int)) (IntKind.wrap IntKind.i64 (r_rField_0 x7 (0 : Int) (4 : Int))) (IntKind.wrap IntKind.i64 (r_rField_0 x7 (4 : Int) (16 : Int))) (IntKind.wrap IntKind.i64 (r_rField_0 x7 (20 : Int) (4 : Int))) (IntKind.wrap IntKind.i64 (r_rField_0 x7 (24 : Int) (1 : Int))) != (0 : Int))
 (.ok [(.i ((0 : Int))), (.i ((0 : Int))), (.i ((0 : Int))), (.i ((0 : Int))), (.i ((0 : Int))), (.i ((0 : Int))), (.i ((0 : Int))), (.i ((0 : Int))), (.i ((0 : Int))), (.i ((0 : Int))), (.i ((0 : Int))), (.b (false))])
 (.br 64 (!(r_gLine_0 (r_rNumber_0 x0 (1099511627776 : Int)) (IntKind.wrap IntKind.i64 (r_rField_0 x7 (0 : Int) (4 : Int))) (IntKind.wrap IntKind.i64 (r_rField_0 x7 (4 : Int) (16 : Int))) (IntKind.wrap IntKind.i64 (r_rField_0 x7 (20 : Int) (4 : Int))) (IntKind.wrap IntKind.i64 (r_rField_0 x7 (24 : Int) (1 : Int))) == x0 && (r_gLine_1 (r_rNumber_0 x0 (1099511627776 : Int)) x1 (IntKind.wrap IntKind.i64 (r_rField_0 x7 (0 : Int) (4 : Int))) (IntKind.wrap IntKind.i64 (r_rField_0 x7 (4 : Int) (16 : Int))) (IntKind.wrap IntKind.i64 (r_rField_0 x7 (20 : Int) (4 : Int))) (IntKind.wrap IntKind.i64 (r_rField_0 x7 (24 : Int) (1 : Int))) == x1 && (r_gLine_2 (r_rNumber_0 x0 (1099511627776 : Int)) x2 (IntKind.wrap IntKind.i64 (r_rField_0 x7 (0 : Int) (4 : Int))) (IntKind.wrap IntKind.i64 (r_rField_0 x7 (4 : Int) (16 : Int))) (IntKind.wrap IntKind.i64 (r_rField_0 x7 (20 : Int) (4 : Int))) (IntKind.wrap IntKind.i64 (r_rField_0 x7 (24 : Int) (1 : Int))) == x2 && (r_gLine_3 (r_rNumber_0 x0 (1099511627776 : Int)) x3 (IntKind.wrap IntKind.i64 (r_rField_0 x7 (0 : Int) (4 : Int))) (IntKind.wrap IntKind.i64 (r_rField_0 x7 (4 : Int) (16 : Int))) (IntKind.wrap IntKind.i64 (r_rField_0 x7 (20 : Int) (4 : Int))) (IntKind.wrap IntKind.i64 (r_rField_0 x7 (24 : Int) (1 : Int))) == x3 && (r_gLine_4 (r_rNumber_0 x0 (1099511627776 : Int)) x4 (IntKind.wrap IntKind.i64 (r_rField_0 x7 (0 : Int) (4 : Int))) (IntKind.wrap IntKind.i64 (r_rField_0 x7 (4 : Int) (16 : Int))) (IntKind.wrap IntKind.i64 (r_rField_0 x7 (20 : Int) (4 : Int))) (IntKind.wrap IntKind.i64 (r_rField_0 x7 (24 : Int) (1 : Int))) == x4 && (r_gLine_5 (r_rNumber_0 x0 (1099511627776 : Int)) x5 (IntKind.wrap IntKind.i64 (r_rField_0 x7 (0 : Int) (4 : Int))) (IntKind.wrap IntKind.i64 (r_rField_0 x7 (4 : Int) (16 : Int))) (IntKind.wrap IntKind.i64 (r_rField_0 x7 (20 : Int) (4 : Int))) (IntKind.wrap IntKind.i64 (r_rField_0 x7 (24 : Int) (1 : Int))) == x5 && (r_gLine_6 (r_rNumber_0 x0 (1099511627776 : Int)) x6 (IntKind.wrap IntKind.i64 (r_rField_0 x7 (0 : Int) (4 : Int))) (IntKind.wrap IntKind.i64 (r_rField_0 x7 (4 : Int) (16 : Int))) (IntKind.wrap IntKind.i64 (r_rField_0 x7 (20 : Int) (4 : Int))) (IntKind.wrap IntKind.i64 (r_rField_0 x7 (24 : Int) (1 : Int))) == x6 && (r_gLine_7 (r_rNumber_0 x0 (1099511627776 : Int)) (IntKind.wrap IntKind.i64 (r_rField_0 x7 (0 : Int) (4 : Int))) (IntKind.wrap IntKind.i64 (r_rField_0 x7 (4 : Int) (16 : Int))) (IntKind.wrap IntKind.i64 (r_rField_0 x7 (20 : Int) (4 : Int))) (IntKind.wrap IntKind.i64 (r_rField_0 x7 (24 : Int) (1 : Int))) == x7 && true)))))))))
 (.ok [(.i ((0 : Int))), (.i ((0 : Int))), (.i ((0 : Int))), (.i ((0 : Int))), (.i ((0 : Int))), (.i ((0 : Int))), (.i ((0 : Int))), (.i ((0 : Int))), (.i ((0 : Int))), (.i ((0 : Int))), (.i ((0 : Int))), (.b (false))])
 (.ok [(.i (r_rNumber_0 x0 (1099511627776 : Int))), (.i (x1)), (.i (x2)), (.i (x3)), (.i (x4)), (.i (x5)), (.i (x6)), (.i (IntKind.wrap IntKind.i64 (r_rField_0 x7 (0 : Int) (4 : Int)))), (.i (IntKind.wrap IntKind.i64 (r_rField_0 x7 (4 : Int) (16 : Int)))), (.i (IntKind.wrap IntKind.i64 (r_rField_0 x7 (20 : Int) (4 : Int)))), (.i (IntKind.wrap IntKind.i64 (r_rField_0 x7 (24 : Int) (1 : Int)))), (.b (true))])))
 (.no))
 (.no))
 (.no))
 (.no))
def y_qOf : Nat → Option Nat := (syOf3 [29, 60, 64] [] [])
def TL_qOf (l : List At) : Tr (List At) := T_qOf (aI l 0) (aI l 1) (aI l 2) (aI l 3) (aI l 4) (aI l 5) (aI l 6) (aI l 7)
theorem e_qOf (l : List At) : (call Try.prog Γ_SA y_qOf noLoops 100 Try.f11 (mkV ish_qOf l) (mkH ish_qOf l)).bind (leafO 0 osh_qOf) = TL_qOf l := by kernel_rfl
def F_qOf : List At → Tr (List At) := TL_qOf
theorem s_qOf : SpecF Try.prog 11 (.pure (locP ish_qOf osh_qOf F_qOf)) :=
  spec_locP (sy := y_qOf) (fuel := 100) (Lp := noLoops) o_SA mixed ⟨Try.func11, by kernel_rfl, by kernel_rfl⟩ ish_qOf osh_qOf rfl (noLoops_ok _) (hT_ways e_qOf)
def Γ_qOf : Specs := upd Γ_SA 11 (.pure (locP ish_qOf osh_qOf F_qOf))
theorem o_qOf : SpecOK Try.prog Γ_qOf := SpecOK.upd o_SA s_qOf

end Go.Proofs.Ytpllgemflpnioaa.G

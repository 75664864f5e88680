/-
  What functions of the seat compute, printed by a program from the explorer.
-/
import Derived.Test.YtpllgemflpnioaaG2
import Derived.KernelRfl
namespace Go.Proofs.Ytpllgemflpnioaa.G
open Go Go.AM Go.Proofs
/-! ### RegsApart -/

def ish_RegsApart : FSh := ⟨[.v true [.k (.n .i64), .k (.n .u64), .k (.n .u64), .k (.n .u64), .k (.n .u64), .k (.n .u64), .k (.n .u64), .k (.n .i64), .k (.n .i64), .k (.n .i64), .k (.n .i64)], .v true [.k (.n .i64), .k (.n .u64), .k (.n .u64), .k (.n .u64), .k (.n .u64), .k (.n .u64), .k (.n .u64), .k (.n .i64), .k (.n .i64), .k (.n .i64), .k (.n .i64)]], []⟩
def osh_RegsApart : FSh := ⟨[.v false [.k .b]], []⟩
def T_RegsApart (x0 : Int) (x1 : Int) (x2 : Int) (x3 : Int) (x4 : Int) (x5 : Int) (x6 : Int) (x7 : Int) (x8 : Int) (x9 : Int) (x10 : Int) (x11 : Int) (x12 : Int) (x13 : Int) (x14 : Int) (x15 : Int) (x16 : Int) (x17 : Int) (x18 : Int) (x19 : Int) (x20 : Int) (x21 : Int) : Tr (List At) :=
 .br 0 (true)
 (.br 23 (r_gLine_8 x0 x7 x8 x9 x10 != (0 : Int))
 (.ok [(.b (true))])
 (.br 26 (r_gLine_8 x11 x18 x19 x20 x21 != (0 : Int))
 (.ok [(.b (true))])
 (.br 34 (r_gLine_0 x0 x7 x8 x9 x10 != IntKind.wrap IntKind.u64 x0)
 (.ok [(.b (false))])
 (.br 42 (r_gLine_1 x0 x1 x7 x8 x9 x10 != x1)
 (.ok [(.b (false))])
 (.br 50 (r_gLine_2 x0 x2 x7 x8 x9 x10 != x2)
 (.ok [(.b (false))])
 (.br 58 (r_gLine_3 x0 x3 x7 x8 x9 x10 != x3)
 (.ok [(.b (false))])
 (.br 66 (r_gLine_4 x0 x4 x7 x8 x9 x10 != x4)
 (.ok [(.b (false))])
 (.br 73 (r_gLine_5 x0 x5 x7 x8 x9 x10 != x5)
 (.ok [(.b (false))])
 (.br 79 (r_gLine_6 x0 x6 x7 x8 x9 x10 != x6)
 (.ok [(.b (false))])
 (.ok [(.b ((r_gLine_0 x0 x7 x8 x9 x10 == r_gLine_0 x11 x18 x19 x20 x21 && (r_gLine_1 x0 x1 x7 x8 x9 x10 == r_gLine_1 x11 x12 x18 x19 x20 x21 && (r_gLine_2 x0 x2 x7 x8 x9 x10 == r_gLine_2 x11 x13 x18 x19 x20 x21 && (r_gLine_3 x0 x3 x7 x8 x9 x10 == r_gLine_3 x11 x14 x18 x19 x20 x21 && (r_gLine_4 x0 x4 x7 x8 x9 x10 == r_gLine_4 x11 x15 x18 x19 x20 x21 && (r_gLine_5 x0 x5 x7 x8 x9 x10 == r_gLine_5 x11 x16 x18 x19 x20 x21 && (r_gLine_6 x0 x6 x7 x8 x9 x10 == r_gLine_6 x11 x17 x18 x19 x20 x21 && (r_gLine_7 x0 x7 x8 x9 x10 == r_gLine_7 x11 x18 x19 x20 x21 && true)))))))) == (x0 == x11 && (x1 == x12 && (x2 == x13 && (x3 == x14 && (x4 == x15 && true))) && (x5 == x16 && (x6 == x17 && (x7 == x18 && (x8 == x19 && (x9 == x20 && (x10 == x21 && true))))))))))]))))))))))
 (.no)
def y_RegsApart : Nat → Option Nat := syOf3 [23, 26, 34, 42, 50, 58, 66, 73, 79] [] []
def TL_RegsApart (l : List At) : Tr (List At) := T_RegsApart (aI l 0) (aI l 1) (aI l 2) (aI l 3) (aI l 4) (aI l 5) (aI l 6) (aI l 7) (aI l 8) (aI l 9) (aI l 10) (aI l 11) (aI l 12) (aI l 13) (aI l 14) (aI l 15) (aI l 16) (aI l 17) (aI l 18) (aI l 19) (aI l 20) (aI l 21)
theorem e_RegsApart (l : List At) : (call Try.prog Γ_shown y_RegsApart noLoops 100 Try.f5 (mkV ish_RegsApart l) (mkH ish_RegsApart l)).bind (leafO ish_RegsApart.hp.length ⟨[.v false [.k .b]], List.replicate ish_RegsApart.hp.length .no⟩) = TL_RegsApart l := by kernel_rfl

end Go.Proofs.Ytpllgemflpnioaa.G

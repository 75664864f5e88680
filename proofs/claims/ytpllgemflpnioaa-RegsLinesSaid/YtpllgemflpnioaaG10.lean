/-
  What functions of the seat compute, printed by a program from the explorer.
-/
import Derived.Test.YtpllgemflpnioaaSB
import Derived.KernelRfl
namespace Go.Proofs.Ytpllgemflpnioaa.G
open Go Go.AM Go.Proofs
/-! ### RegsLines -/

def ish_RegsLines : FSh := ⟨[.v true [.k (.n .i64), .k (.n .u64), .k (.n .u64), .k (.n .u64), .k (.n .u64), .k (.n .u64), .k (.n .u64), .k (.n .i64), .k (.n .i64), .k (.n .i64), .k (.n .i64)], .v true [.k (.n .u64), .k (.n .u64), .k (.n .u64), .k (.n .u64), .k (.n .u64), .k (.n .u64), .k (.n .u64), .k (.n .u64)]], []⟩
def osh_RegsLines : FSh := ⟨[.v false [.k .b]], []⟩
def T_RegsLines (x0 : Int) (x1 : Int) (x2 : Int) (x3 : Int) (x4 : Int) (x5 : Int) (x6 : Int) (x7 : Int) (x8 : Int) (x9 : Int) (x10 : Int) (x11 : Int) (x12 : Int) (x13 : Int) (x14 : Int) (x15 : Int) (x16 : Int) (x17 : Int) (x18 : Int) : Tr (List At) :=
 .br 0 (true)
 (.br 0 (ok_gOf x11 x12 x13 x14 x15 x16 x17 x18)
 (.br 0 (decide ((0 : Int) ≤ x18 ∧ x18 < (18446744073709551616 : Int)))
 (.br 0 (ok_gOf x11 x12 x13 x14 x15 x16 x17 x18)
 (.br 41 (r_gLine_0 x0 x7 x8 x9 x10 == r_gLine_0 x0 x7 x8 x9 x10 && (r_gLine_1 x0 x1 x7 x8 x9 x10 == r_gLine_1 x0 x1 x7 x8 x9 x10 && (r_gLine_2 x0 x2 x7 x8 x9 x10 == r_gLine_2 x0 x2 x7 x8 x9 x10 && (r_gLine_3 x0 x3 x7 x8 x9 x10 == r_gLine_3 x0 x3 x7 x8 x9 x10 && (r_gLine_4 x0 x4 x7 x8 x9 x10 == r_gLine_4 x0 x4 x7 x8 x9 x10 && (r_gLine_5 x0 x5 x7 x8 x9 x10 == r_gLine_5 x0 x5 x7 x8 x9 x10 && (r_gLine_6 x0 x6 x7 x8 x9 x10 == r_gLine_6 x0 x6 x7 x8 x9 x10 && (r_gLine_7 x0 x7 x8 x9 x10 == r_gLine_7 x0 x7 x8 x9 x10 && true))))))))
 (.br 46 (r_gLine_8 x0 x7 x8 x9 x10 == r_gLine_8 x0 x7 x8 x9 x10)
 (.br 51 (r_gOf_0 x11 x12 x13 x14 x15 x16 x17 x18 == r_gOf_0 x11 x12 x13 x14 x15 x16 x17 x18 && (r_gOf_1 x11 x12 x13 x14 x15 x16 x17 x18 == r_gOf_1 x11 x12 x13 x14 x15 x16 x17 x18 && (r_gOf_2 x11 x12 x13 x14 x15 x16 x17 x18 == r_gOf_2 x11 x12 x13 x14 x15 x16 x17 x18 && (r_gOf_3 x11 x12 x13 x14 x15 x16 x17 x18 == r_gOf_3 x11 x12 x13 x14 x15 x16 x17 x18 && (r_gOf_4 x11 x12 x13 x14 x15 x16 x17 x18 == r_gOf_4 x11 x12 x13 x14 x15 x16 x17 x18 && true))) && (r_gOf_5 x11 x12 x13 x14 x15 x16 x17 x18 == r_gOf_5 x11 x12 x13 x14 x15 x16 x17 x18 && (r_gOf_6 x11 x12 x13 x14 x15 x16 x17 x18 == r_gOf_6 x11 x12 x13 x14 x15 x16 x17 x18 && (r_gOf_7 x11 x12 x13 x14 x15 x16 x17 x18 == r_gOf_7 x11 x12 x13 x14 x15 x16 x17 x18 && (r_gOf_8 x11 x12 x13 x14 x15 x16 x17 x18 == r_gOf_8 x11 x12 x13 x14 x15 x16 x17 x18 && (r_gOf_9 x11 x12 x13 x14 x15 x16 x17 x18 == r_gOf_9 x11 x12 x13 x14 x15 x16 x17 x18 && (r_gOf_10 x11 x12 x13 x14 x15 x16 x17 x18 == r_gOf_10 x11 x12 x13 x14 x15 x16 x17 x18 && true))))))))
 (.ok [(.b (r_gOf_11 x11 x12 x13 x14 x15 x16 x17 x18 == r_gOf_11 x11 x12 x13 x14 x15 x16 x17 x18))])
 (.ok [(.b (false))]))
 (.ok [(.b (false))]))
 (.ok [(.b (false))]))
 (.no))
 (.no))
 (.no))
 (.no)
def y_RegsLines : Nat → Option Nat := (syOf3 [41, 46, 51] [] [])
def TL_RegsLines (l : List At) : Tr (List At) := T_RegsLines (aI l 0) (aI l 1) (aI l 2) (aI l 3) (aI l 4) (aI l 5) (aI l 6) (aI l 7) (aI l 8) (aI l 9) (aI l 10) (aI l 11) (aI l 12) (aI l 13) (aI l 14) (aI l 15) (aI l 16) (aI l 17) (aI l 18)
theorem e_RegsLines (l : List At) : (call Try.prog Γ_SB y_RegsLines noLoops 100 Try.f3 (mkV ish_RegsLines l) (mkH ish_RegsLines l)).bind (leafO ish_RegsLines.hp.length ⟨[.v false [.k .b]], List.replicate ish_RegsLines.hp.length .no⟩) = TL_RegsLines l := by kernel_rfl

end Go.Proofs.Ytpllgemflpnioaa.G

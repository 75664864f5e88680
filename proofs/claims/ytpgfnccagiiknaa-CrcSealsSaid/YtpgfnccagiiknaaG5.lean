/-
  What functions of the seat compute, printed by a program from the explorer.
-/
import Derived.Test.YtpgfnccagiiknaaG2
import Derived.KernelRfl
namespace Go.Proofs.Ytpgfnccagiiknaa.G
open Go Go.AM Go.Proofs
/-! ### CrcSeals -/

def ish_CrcSeals : FSh := ⟨[.v true [.k (.n .u64), .k (.n .u64), .k (.n .u64), .k (.n .u64), .k (.n .u64), .k (.n .u64), .k (.n .u64), .k (.n .u64)]], []⟩
def osh_CrcSeals : FSh := ⟨[.v false [.k .b]], []⟩
def T_CrcSeals (x0 : Int) (x1 : Int) (x2 : Int) (x3 : Int) (x4 : Int) (x5 : Int) (x6 : Int) (x7 : Int) : Tr (List At) :=
 .br 0 (true)
 (.br 0 (ok_crcSeal x0 x1 x2 x3 x4 x5 x6 x7)
 (.br 19 (r_crcSeal_0 x0 x1 x2 x3 x4 x5 x6 != x0)
 (.ok [(.b (false))])
 (.br 19 (r_crcSeal_1 x0 x1 x2 x3 x4 x5 x6 != x1)
 (.ok [(.b (false))])
 (.br 19 (r_crcSeal_2 x0 x1 x2 x3 x4 x5 x6 != x2)
 (.ok [(.b (false))])
 (.br 19 (r_crcSeal_3 x0 x1 x2 x3 x4 x5 x6 != x3)
 (.ok [(.b (false))])
 (.br 19 (r_crcSeal_4 x0 x1 x2 x3 x4 x5 x6 != x4)
 (.ok [(.b (false))])
 (.br 19 (r_crcSeal_5 x0 x1 x2 x3 x4 x5 x6 != x5)
 (.ok [(.b (false))])
 (.br 19 (r_crcSeal_6 x0 x1 x2 x3 x4 x5 x6 != x6)
 (.ok [(.b (false))])
 (.br 0 (ok_refSeal x0 x1 x2 x3 x4 x5 x6 x7)
 (.br 27 (r_crcSeal_0 x0 x1 x2 x3 x4 x5 x6 == r_refSeal_0 x0 x1 x2 x3 x4 x5 x6 &&   (r_crcSeal_1 x0 x1 x2 x3 x4 x5 x6 == r_refSeal_1 x0 x1 x2 x3 x4 x5 x6 &&     (r_crcSeal_2 x0 x1 x2 x3 x4 x5 x6 == r_refSeal_2 x0 x1 x2 x3 x4 x5 x6 &&       (r_crcSeal_3 x0 x1 x2 x3 x4 x5 x6 == r_refSeal_3 x0 x1 x2 x3 x4 x5 x6 &&         (r_crcSeal_4 x0 x1 x2 x3 x4 x5 x6 == r_refSeal_4 x0 x1 x2 x3 x4 x5 x6 &&           (r_crcSeal_5 x0 x1 x2 x3 x4 x5 x6 == r_refSeal_5 x0 x1 x2 x3 x4 x5 x6 &&             (r_crcSeal_6 x0 x1 x2 x3 x4 x5 x6 == r_refSeal_6 x0 x1 x2 x3 x4 x5 x6 &&               (r_crcSeal_7 x0 x1 x2 x3 x4 x5 x6 == r_refSeal_7 x0 x1 x2 x3 x4 x5 x6 && true))))))))
 (.br 0 (ok_crcGood x0 x1 x2 x3 x4 x5 x6 x7)
 (.br 0 (ok_refGood x0 x1 x2 x3 x4 x5 x6 x7)
 (.br 34 (r_crcGood_0 x0 x1 x2 x3 x4 x5 x6 x7 == r_refGood_0 x0 x1 x2 x3 x4 x5 x6 x7)
 (.br 0 (ok_crcGood (r_crcSeal_0 x0 x1 x2 x3 x4 x5 x6) (r_crcSeal_1 x0 x1 x2 x3 x4 x5 x6) (r_crcSeal_2 x0 x1 x2 x3 x4 x5 x6)   (r_crcSeal_3 x0 x1 x2 x3 x4 x5 x6) (r_crcSeal_4 x0 x1 x2 x3 x4 x5 x6) (r_crcSeal_5 x0 x1 x2 x3 x4 x5 x6)   (r_crcSeal_6 x0 x1 x2 x3 x4 x5 x6) (r_crcSeal_7 x0 x1 x2 x3 x4 x5 x6))
 (.br 38 (r_crcGood_0 (r_crcSeal_0 x0 x1 x2 x3 x4 x5 x6) (r_crcSeal_1 x0 x1 x2 x3 x4 x5 x6) (r_crcSeal_2 x0 x1 x2 x3 x4 x5 x6)   (r_crcSeal_3 x0 x1 x2 x3 x4 x5 x6) (r_crcSeal_4 x0 x1 x2 x3 x4 x5 x6) (r_crcSeal_5 x0 x1 x2 x3 x4 x5 x6)   (r_crcSeal_6 x0 x1 x2 x3 x4 x5 x6) (r_crcSeal_7 x0 x1 x2 x3 x4 x5 x6))
 (.br 0 (ok_crcSeal (r_crcSeal_0 x0 x1 x2 x3 x4 x5 x6) (r_crcSeal_1 x0 x1 x2 x3 x4 x5 x6) (r_crcSeal_2 x0 x1 x2 x3 x4 x5 x6)   (r_crcSeal_3 x0 x1 x2 x3 x4 x5 x6) (r_crcSeal_4 x0 x1 x2 x3 x4 x5 x6) (r_crcSeal_5 x0 x1 x2 x3 x4 x5 x6)   (r_crcSeal_6 x0 x1 x2 x3 x4 x5 x6) (r_crcSeal_7 x0 x1 x2 x3 x4 x5 x6))
 (.ok [(.b (r_crcSeal_0 (r_crcSeal_0 x0 x1 x2 x3 x4 x5 x6) (r_crcSeal_1 x0 x1 x2 x3 x4 x5 x6) (r_crcSeal_2 x0 x1 x2 x3 x4 x5 x6)       (r_crcSeal_3 x0 x1 x2 x3 x4 x5 x6) (r_crcSeal_4 x0 x1 x2 x3 x4 x5 x6) (r_crcSeal_5 x0 x1 x2 x3 x4 x5 x6)       (r_crcSeal_6 x0 x1 x2 x3 x4 x5 x6) ==     r_crcSeal_0 x0 x1 x2 x3 x4 x5 x6 &&   (r_crcSeal_1 (r_crcSeal_0 x0 x1 x2 x3 x4 x5 x6) (r_crcSeal_1 x0 x1 x2 x3 x4 x5 x6) (r_crcSeal_2 x0 x1 x2 x3 x4 x5 x6)         (r_crcSeal_3 x0 x1 x2 x3 x4 x5 x6) (r_crcSeal_4 x0 x1 x2 x3 x4 x5 x6) (r_crcSeal_5 x0 x1 x2 x3 x4 x5 x6)         (r_crcSeal_6 x0 x1 x2 x3 x4 x5 x6) ==       r_crcSeal_1 x0 x1 x2 x3 x4 x5 x6 &&     (r_crcSeal_2 (r_crcSeal_0 x0 x1 x2 x3 x4 x5 x6) (r_crcSeal_1 x0 x1 x2 x3 x4 x5 x6)           (r_crcSeal_2 x0 x1 x2 x3 x4 x5 x6) (r_crcSeal_3 x0 x1 x2 x3 x4 x5 x6) (r_crcSeal_4 x0 x1 x2 x3 x4 x5 x6)           (r_crcSeal_5 x0 x1 x2 x3 x4 x5 x6) (r_crcSeal_6 x0 x1 x2 x3 x4 x5 x6) ==         r_crcSeal_2 x0 x1 x2 x3 x4 x5 x6 &&       (r_crcSeal_3 (r_crcSeal_0 x0 x1 x2 x3 x4 x5 x6) (r_crcSeal_1 x0 x1 x2 x3 x4 x5 x6)             (r_crcSeal_2 x0 x1 x2 x3 x4 x5 x6) (r_crcSeal_3 x0 x1 x2 x3 x4 x5 x6) (r_crcSeal_4 x0 x1 x2 x3 x4 x5 x6)             (r_crcSeal_5 x0 x1 x2 x3 x4 x5 x6) (r_crcSeal_6 x0 x1 x2 x3 x4 x5 x6) ==           r_crcSeal_3 x0 x1 x2 x3 x4 x5 x6 &&         (r_crcSeal_4 (r_crcSeal_0 x0 x1 x2 x3 x4 x5 x6) (r_crcSeal_1 x0 x1 x2 x3 x4 x5 x6)               (r_crcSeal_2 x0 x1 x2 x3 x4 x5 x6) (r_crcSeal_3 x0 x1 x2 x3 x4 x5 x6) (r_crcSeal_4 x0 x1 x2 x3 x4 x5 x6)               (r_crcSeal_5 x0 x1 x2 x3 x4 x5 x6) (r_crcSeal_6 x0 x1 x2 x3 x4 x5 x6) ==             r_crcSeal_4 x0 x1 x2 x3 x4 x5 x6 &&           (r_crcSeal_5 (r_crcSeal_0 x0 x1 x2 x3 x4 x5 x6) (r_crcSeal_1 x0 x1 x2 x3 x4 x5 x6)                 (r_crcSeal_2 x0 x1 x2 x3 x4 x5 x6) (r_crcSeal_3 x0 x1 x2 x3 x4 x5 x6) (r_crcSeal_4 x0 x1 x2 x3 x4 x5 x6)                 (r_crcSeal_5 x0 x1 x2 x3 x4 x5 x6) (r_crcSeal_6 x0 x1 x2 x3 x4 x5 x6) ==               r_crcSeal_5 x0 x1 x2 x3 x4 x5 x6 &&             (r_crcSeal_6 (r_crcSeal_0 x0 x1 x2 x3 x4 x5 x6) (r_crcSeal_1 x0 x1 x2 x3 x4 x5 x6)                   (r_crcSeal_2 x0 x1 x2 x3 x4 x5 x6) (r_crcSeal_3 x0 x1 x2 x3 x4 x5 x6)                   (r_crcSeal_4 x0 x1 x2 x3 x4 x5 x6) (r_crcSeal_5 x0 x1 x2 x3 x4 x5 x6)                   (r_crcSeal_6 x0 x1 x2 x3 x4 x5 x6) ==                 r_crcSeal_6 x0 x1 x2 x3 x4 x5 x6 &&               (r_crcSeal_7 (r_crcSeal_0 x0 x1 x2 x3 x4 x5 x6) (r_crcSeal_1 x0 x1 x2 x3 x4 x5 x6)                     (r_crcSeal_2 x0 x1 x2 x3 x4 x5 x6) (r_crcSeal_3 x0 x1 x2 x3 x4 x5 x6)                     (r_crcSeal_4 x0 x1 x2 x3 x4 x5 x6) (r_crcSeal_5 x0 x1 x2 x3 x4 x5 x6)                     (r_crcSeal_6 x0 x1 x2 x3 x4 x5 x6) ==                   r_crcSeal_7 x0 x1 x2 x3 x4 x5 x6 &&                 true)))))))))])
 (.no))
 (.ok [(.b (false))]))
 (.no))
 (.ok [(.b (false))]))
 (.no))
 (.no))
 (.ok [(.b (false))]))
 (.no)))))))))
 (.no))
 (.no)
def y_CrcSeals : Nat → Option Nat := syOf3 [19, 27, 34, 38] [] []
def TL_CrcSeals (l : List At) : Tr (List At) := T_CrcSeals (aI l 0) (aI l 1) (aI l 2) (aI l 3) (aI l 4) (aI l 5) (aI l 6) (aI l 7)
theorem e_CrcSeals (l : List At) : (call Try.prog Γ_shown y_CrcSeals noLoops 100 Try.f5 (mkV ish_CrcSeals l) (mkH ish_CrcSeals l)).bind (leafO ish_CrcSeals.hp.length ⟨[.v false [.k .b]], List.replicate ish_CrcSeals.hp.length .no⟩) = TL_CrcSeals l := by kernel_rfl

end Go.Proofs.Ytpgfnccagiiknaa.G

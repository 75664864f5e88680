/-
  What functions of the seat compute, printed by a program from the explorer.
-/
import Derived.Test.YtpllgemflpnioaaWordR
import Derived.KernelRfl
namespace Go.Proofs.Ytpllgemflpnioaa.G
open Go Go.AM Go.Proofs
/-! ### qLine -/

def ish_qLine : FSh := ⟨[.v true [.k (.n .i64), .k (.n .u64), .k (.n .u64), .k (.n .u64), .k (.n .u64), .k (.n .u64), .k (.n .u64), .k (.n .i64), .k (.n .i64), .k (.n .i64), .k (.n .i64)]], []⟩
def osh_qLine : FSh := ⟨[.tup [(true, [.k (.n .u64), .k (.n .u64), .k (.n .u64), .k (.n .u64), .k (.n .u64), .k (.n .u64), .k (.n .u64), .k (.n .u64)]), (false, [.k (.n .i64)])]], []⟩
def T_qLine_s0 (x0 : Int) (x1 : Int) (x2 : Int) (x3 : Int) (x4 : Int) (x5 : Int) (x6 : Int) (x7 : Int) (x8 : Int) (x9 : Int) (x10 : Int) : Tr (List At) :=
 .br 80 (x10 != (1 : Int))
 (.ok [(.i ((0 : Int))), (.i ((0 : Int))), (.i ((0 : Int))), (.i ((0 : Int))), (.i ((0 : Int))), (.i ((0 : Int))), (.i ((0 : Int))), (.i ((0 : Int))), (.i ((1 : Int)))])
 (.br 86 (x7 != (3 : Int))
 (.ok [(.i ((0 : Int))), (.i ((0 : Int))), (.i ((0 : Int))), (.i ((0 : Int))), (.i ((0 : Int))), (.i ((0 : Int))), (.i ((0 : Int))), (.i ((0 : Int))), (.i ((1 : Int)))])
 (.br 0 (ok_rWith (0 : Int) (0 : Int) (4 : Int) (IntKind.wrap IntKind.u64 x7))
 (.br 0 (ok_rWith (r_rWith_0 (0 : Int) (0 : Int) (4 : Int) (IntKind.wrap IntKind.u64 x7)) (4 : Int) (16 : Int) (IntKind.wrap IntKind.u64 x8))
 (.br 0 (ok_rWith (r_rWith_0 (r_rWith_0 (0 : Int) (0 : Int) (4 : Int) (IntKind.wrap IntKind.u64 x7)) (4 : Int) (16 : Int) (IntKind.wrap IntKind.u64 x8)) (20 : Int) (4 : Int) (IntKind.wrap IntKind.u64 x9))
 (.br 0 (ok_rWith (r_rWith_0 (r_rWith_0 (r_rWith_0 (0 : Int) (0 : Int) (4 : Int) (IntKind.wrap IntKind.u64 x7)) (4 : Int) (16 : Int) (IntKind.wrap IntKind.u64 x8)) (20 : Int) (4 : Int) (IntKind.wrap IntKind.u64 x9)) (24 : Int) (1 : Int) (IntKind.wrap IntKind.u64 x10))
 (.ok [(.i (IntKind.wrap IntKind.u64 x0)), (.i (x1)), (.i (x2)), (.i (x3)), (.i (x4)), (.i (x5)), (.i (x6)), (.i (r_rWith_0 (r_rWith_0 (r_rWith_0 (r_rWith_0 (0 : Int) (0 : Int) (4 : Int) (IntKind.wrap IntKind.u64 x7)) (4 : Int) (16 : Int) (IntKind.wrap IntKind.u64 x8)) (20 : Int) (4 : Int) (IntKind.wrap IntKind.u64 x9)) (24 : Int) (1 : Int) (IntKind.wrap IntKind.u64 x10))), (.i ((0 : Int)))])
 (.no))
 (.no))
 (.no))
 (.no)))
def T_qLine_s1 (x0 : Int) (x1 : Int) (x2 : Int) (x3 : Int) (x4 : Int) (x5 : Int) (x6 : Int) (x7 : Int) (x8 : Int) (x9 : Int) (x10 : Int) : Tr (List At) :=
 .br 76 (x10 != (0 : Int))
 (T_qLine_s0 x0 x1 x2 x3 x4 x5 x6 x7 x8 x9 x10)
 (.br 0 (ok_rWith (0 : Int) (0 : Int) (4 : Int) (IntKind.wrap IntKind.u64 x7))
 (.br 0 (ok_rWith (r_rWith_0 (0 : Int) (0 : Int) (4 : Int) (IntKind.wrap IntKind.u64 x7)) (4 : Int) (16 : Int) (IntKind.wrap IntKind.u64 x8))
 (.br 0 (ok_rWith (r_rWith_0 (r_rWith_0 (0 : Int) (0 : Int) (4 : Int) (IntKind.wrap IntKind.u64 x7)) (4 : Int) (16 : Int) (IntKind.wrap IntKind.u64 x8)) (20 : Int) (4 : Int) (IntKind.wrap IntKind.u64 x9))
 (.br 0 (ok_rWith (r_rWith_0 (r_rWith_0 (r_rWith_0 (0 : Int) (0 : Int) (4 : Int) (IntKind.wrap IntKind.u64 x7)) (4 : Int) (16 : Int) (IntKind.wrap IntKind.u64 x8)) (20 : Int) (4 : Int) (IntKind.wrap IntKind.u64 x9)) (24 : Int) (1 : Int) (IntKind.wrap IntKind.u64 x10))
 (.ok [(.i (IntKind.wrap IntKind.u64 x0)), (.i (x1)), (.i (x2)), (.i (x3)), (.i (x4)), (.i (x5)), (.i (x6)), (.i (r_rWith_0 (r_rWith_0 (r_rWith_0 (r_rWith_0 (0 : Int) (0 : Int) (4 : Int) (IntKind.wrap IntKind.u64 x7)) (4 : Int) (16 : Int) (IntKind.wrap IntKind.u64 x8)) (20 : Int) (4 : Int) (IntKind.wrap IntKind.u64 x9)) (24 : Int) (1 : Int) (IntKind.wrap IntKind.u64 x10))), (.i ((0 : Int)))])
 (.no))
 (.no))
 (.no))
 (.no))
def T_qLine (x0 : Int) (x1 : Int) (x2 : Int) (x3 : Int) (x4 : Int) (x5 : Int) (x6 : Int) (x7 : Int) (x8 : Int) (x9 : Int) (x10 : Int) : Tr (List At) :=
 .br 38 (!bif decide (x0 ≥ (0 : Int)) then bif decide (x0 ≤ (1099511627776 : Int)) then bif decide (x7 ≥ (1 : Int)) then decide (x7 ≤ (5 : Int)) else false else false else false)
 (.ok [(.i ((0 : Int))), (.i ((0 : Int))), (.i ((0 : Int))), (.i ((0 : Int))), (.i ((0 : Int))), (.i ((0 : Int))), (.i ((0 : Int))), (.i ((0 : Int))), (.i ((1 : Int)))])
 (.br 43 (decide (x8 < (0 : Int)))
 (.ok [(.i ((0 : Int))), (.i ((0 : Int))), (.i ((0 : Int))), (.i ((0 : Int))), (.i ((0 : Int))), (.i ((0 : Int))), (.i ((0 : Int))), (.i ((0 : Int))), (.i ((1 : Int)))])
 (.br 200049 (within x7 (6 : Nat))
 (.br 53 (decide (x8 > List.getD [(0 : Int), (0 : Int), (0 : Int), (48 : Int), (48 : Int), (255 : Int)] (Int.toNat x7) (0 : Int)))
 (.ok [(.i ((0 : Int))), (.i ((0 : Int))), (.i ((0 : Int))), (.i ((0 : Int))), (.i ((0 : Int))), (.i ((0 : Int))), (.i ((0 : Int))), (.i ((0 : Int))), (.i ((1 : Int)))])
 (.br 58 (decide (x9 < (0 : Int)))
 (.ok [(.i ((0 : Int))), (.i ((0 : Int))), (.i ((0 : Int))), (.i ((0 : Int))), (.i ((0 : Int))), (.i ((0 : Int))), (.i ((0 : Int))), (.i ((0 : Int))), (.i ((1 : Int)))])
 (.br 63 (decide (x9 > (7 : Int)))
 (.ok [(.i ((0 : Int))), (.i ((0 : Int))), (.i ((0 : Int))), (.i ((0 : Int))), (.i ((0 : Int))), (.i ((0 : Int))), (.i ((0 : Int))), (.i ((0 : Int))), (.i ((1 : Int)))])
 (.br 66 (!bif x7 == (3 : Int) then true else x7 == (4 : Int))
 (.br 72 (x9 != (0 : Int))
 (.ok [(.i ((0 : Int))), (.i ((0 : Int))), (.i ((0 : Int))), (.i ((0 : Int))), (.i ((0 : Int))), (.i ((0 : Int))), (.i ((0 : Int))), (.i ((0 : Int))), (.i ((1 : Int)))])
 (T_qLine_s1 x0 x1 x2 x3 x4 x5 x6 x7 x8 x9 x10))
 (T_qLine_s1 x0 x1 x2 x3 x4 x5 x6 x7 x8 x9 x10)))))
 (.no)))
def y_qLine : Nat → Option Nat := (syJ [1000002, 1000003] (syOf3 [13, 21, 26, 31, 38, 43, 53, 58, 63, 76, 80, 86, 66, 72] [] [49]))
def TL_qLine (l : List At) : Tr (List At) := T_qLine (aI l 0) (aI l 1) (aI l 2) (aI l 3) (aI l 4) (aI l 5) (aI l 6) (aI l 7) (aI l 8) (aI l 9) (aI l 10)
theorem e_qLine (l : List At) : (call Try.prog Γ_rWith y_qLine noLoops 100 Try.f9 (mkV ish_qLine l) (mkH ish_qLine l)).bind (leafO 0 osh_qLine) = TL_qLine l := by kernel_rfl
def F_qLine : List At → Tr (List At) := TL_qLine
theorem s_qLine : SpecF Try.prog 9 (.pure (locP ish_qLine osh_qLine F_qLine)) :=
  spec_locP (sy := y_qLine) (fuel := 100) (Lp := noLoops) o_rWith mixed ⟨Try.func9, by kernel_rfl, by kernel_rfl⟩ ish_qLine osh_qLine rfl (noLoops_ok _) (hT_ways e_qLine)
def Γ_qLine : Specs := upd Γ_rWith 9 (.pure (locP ish_qLine osh_qLine F_qLine))
theorem o_qLine : SpecOK Try.prog Γ_qLine := SpecOK.upd o_rWith s_qLine

end Go.Proofs.Ytpllgemflpnioaa.G

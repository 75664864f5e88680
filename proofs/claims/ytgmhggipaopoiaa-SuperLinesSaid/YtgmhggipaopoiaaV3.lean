/-
  The plain law of SuperLines.
-/
import Derived.Test.YtgmhggipaopoiaaG3
import Derived.Test.YtgmhggipaopoiaaV0
namespace Go.Proofs.Ytgmhggipaopoiaa.G
open Go Go.AM Go.Proofs

theorem vc_SuperLines (x0 x1 x2 x3 x4 x5 x6 x7 x8 x9 x10 x11 : Int) (_ : IntKind.min .i64 ≤ x0) (_ : x0 ≤ IntKind.max .i64) (_ : IntKind.min .i64 ≤ x1) (_ : x1 ≤ IntKind.max .i64) (_ : IntKind.min .i64 ≤ x2) (_ : x2 ≤ IntKind.max .i64) (_ : IntKind.min .i64 ≤ x3) (_ : x3 ≤ IntKind.max .i64) (_ : IntKind.min .u64 ≤ x4) (_ : x4 ≤ IntKind.max .u64) (_ : IntKind.min .u64 ≤ x5) (_ : x5 ≤ IntKind.max .u64) (_ : IntKind.min .u64 ≤ x6) (_ : x6 ≤ IntKind.max .u64) (_ : IntKind.min .u64 ≤ x7) (_ : x7 ≤ IntKind.max .u64) (_ : IntKind.min .u64 ≤ x8) (_ : x8 ≤ IntKind.max .u64) (_ : IntKind.min .u64 ≤ x9) (_ : x9 ≤ IntKind.max .u64) (_ : IntKind.min .u64 ≤ x10) (_ : x10 ≤ IntKind.max .u64) (_ : IntKind.min .u64 ≤ x11) (_ : x11 ≤ IntKind.max .u64) :
    (T_SuperLines x0 x1 x2 x3 x4 x5 x6 x7 x8 x9 x10 x11).sat fun r => r = [.b true] := by
  simp only [T_SuperLines, Tr.sat_br, Tr.sat_ok, Tr.sat_no, t0, t1, t2, t3, t4, t5, t6, t7, t8, u0, u1, u2, u3, u4, sk, tk, rk, uk, beq_self_eq_true, Bool.and_self, Bool.and_true]
  simp
end Go.Proofs.Ytgmhggipaopoiaa.G

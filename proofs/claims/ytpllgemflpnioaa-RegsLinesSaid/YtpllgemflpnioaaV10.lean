/-
  The plain law of RegsLines.
-/
import Derived.Test.YtpllgemflpnioaaG10
namespace Go.Proofs.Ytpllgemflpnioaa.G
open Go Go.AM Go.Proofs

theorem vc_RegsLines (x0 x1 x2 x3 x4 x5 x6 x7 x8 x9 x10 x11 x12 x13 x14 x15 x16 x17 x18 : Int) (_h0 : IntKind.min .i64 ≤ x0) (_k0 : x0 ≤ IntKind.max .i64) (_h1 : IntKind.min .u64 ≤ x1) (_k1 : x1 ≤ IntKind.max .u64) (_h2 : IntKind.min .u64 ≤ x2) (_k2 : x2 ≤ IntKind.max .u64) (_h3 : IntKind.min .u64 ≤ x3) (_k3 : x3 ≤ IntKind.max .u64) (_h4 : IntKind.min .u64 ≤ x4) (_k4 : x4 ≤ IntKind.max .u64) (_h5 : IntKind.min .u64 ≤ x5) (_k5 : x5 ≤ IntKind.max .u64) (_h6 : IntKind.min .u64 ≤ x6) (_k6 : x6 ≤ IntKind.max .u64) (_h7 : IntKind.min .i64 ≤ x7) (_k7 : x7 ≤ IntKind.max .i64) (_h8 : IntKind.min .i64 ≤ x8) (_k8 : x8 ≤ IntKind.max .i64) (_h9 : IntKind.min .i64 ≤ x9) (_k9 : x9 ≤ IntKind.max .i64) (_h10 : IntKind.min .i64 ≤ x10) (_k10 : x10 ≤ IntKind.max .i64) (_h11 : IntKind.min .u64 ≤ x11) (_k11 : x11 ≤ IntKind.max .u64) (_h12 : IntKind.min .u64 ≤ x12) (_k12 : x12 ≤ IntKind.max .u64) (_h13 : IntKind.min .u64 ≤ x13) (_k13 : x13 ≤ IntKind.max .u64) (_h14 : IntKind.min .u64 ≤ x14) (_k14 : x14 ≤ IntKind.max .u64) (_h15 : IntKind.min .u64 ≤ x15) (_k15 : x15 ≤ IntKind.max .u64) (_h16 : IntKind.min .u64 ≤ x16) (_k16 : x16 ≤ IntKind.max .u64) (_h17 : IntKind.min .u64 ≤ x17) (_k17 : x17 ≤ IntKind.max .u64) (_h18 : IntKind.min .u64 ≤ x18) (_k18 : x18 ≤ IntKind.max .u64) :
    (T_RegsLines x0 x1 x2 x3 x4 x5 x6 x7 x8 x9 x10 x11 x12 x13 x14 x15 x16 x17 x18).sat fun r => r = [.b true] := by
  have h : 0 ≤ x18 := _h18
  have k : x18 ≤ 18446744073709551615 := _k18
  unfold T_RegsLines
  simp only [beq_self_eq_true, Bool.and_self]
  exact brT rfl (brT (ok_of _ _ _ _ _ _ _ _) (brT (decide_eq_true (by omega)) (brT (ok_of _ _ _ _ _ _ _ _) (brT rfl (brT rfl (brT rfl (Tr.sat_ok.2 rfl)))))))
end Go.Proofs.Ytpllgemflpnioaa.G

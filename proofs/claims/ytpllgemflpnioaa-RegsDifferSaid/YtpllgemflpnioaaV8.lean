/-
  The plain law of RegsDiffer.
-/
import Derived.Test.YtpllgemflpnioaaG8
import Derived.Test.YtpllgemflpnioaaV0
namespace Go.Proofs.Ytpllgemflpnioaa.G
open Go Go.AM Go.Proofs

theorem vc_RegsDiffer (x0 x1 x2 x3 x4 x5 x6 x7 x8 x9 x10 x11 x12 x13 x14 x15 : Int) (_ : IntKind.min .u64 ≤ x0) (_ : x0 ≤ IntKind.max .u64) (_ : IntKind.min .u64 ≤ x1) (_ : x1 ≤ IntKind.max .u64) (_ : IntKind.min .u64 ≤ x2) (_ : x2 ≤ IntKind.max .u64) (_ : IntKind.min .u64 ≤ x3) (_ : x3 ≤ IntKind.max .u64) (_ : IntKind.min .u64 ≤ x4) (_ : x4 ≤ IntKind.max .u64) (_ : IntKind.min .u64 ≤ x5) (_ : x5 ≤ IntKind.max .u64) (_ : IntKind.min .u64 ≤ x6) (_ : x6 ≤ IntKind.max .u64) (_ : IntKind.min .u64 ≤ x7) (_ : x7 ≤ IntKind.max .u64) (_ : IntKind.min .u64 ≤ x8) (_ : x8 ≤ IntKind.max .u64) (_ : IntKind.min .u64 ≤ x9) (_ : x9 ≤ IntKind.max .u64) (_ : IntKind.min .u64 ≤ x10) (_ : x10 ≤ IntKind.max .u64) (_ : IntKind.min .u64 ≤ x11) (_ : x11 ≤ IntKind.max .u64) (_ : IntKind.min .u64 ≤ x12) (_ : x12 ≤ IntKind.max .u64) (_ : IntKind.min .u64 ≤ x13) (_ : x13 ≤ IntKind.max .u64) (_ : IntKind.min .u64 ≤ x14) (_ : x14 ≤ IntKind.max .u64) (_ : IntKind.min .u64 ≤ x15) (_ : x15 ≤ IntKind.max .u64) :
    (T_RegsDiffer x0 x1 x2 x3 x4 x5 x6 x7 x8 x9 x10 x11 x12 x13 x14 x15).sat fun r => r = [.b true] := by
  unfold T_RegsDiffer
  refine brT rfl (brT rfl (brT rfl (brF ?_ (brT (dif_ok [x0, x1, x2, x3, x4, x5, x6, x7] [x8, x9, x10, x11, x12, x13, x14, x15]) ⟨_, rfl, congrArg (fun b => [At.b b]) ?_⟩))))
  · rw [bne_eq_false_iff_eq]; rfl
  · simp only [beq_self_eq_true, Bool.and_self]
end Go.Proofs.Ytpllgemflpnioaa.G

/-
  The plain law of CrcSeals.
-/
import Derived.Test.YtpgfnccagiiknaaG5
import Derived.Test.YtpgfnccagiiknaaV0
namespace Go.Proofs.Ytpgfnccagiiknaa.G
open Go Go.AM Go.Proofs

theorem vc_CrcSeals (x0 x1 x2 x3 x4 x5 x6 x7 : Int) (h0 : IntKind.min .u64 ≤ x0) (_ : x0 ≤ IntKind.max .u64) (h1 : IntKind.min .u64 ≤ x1) (_ : x1 ≤ IntKind.max .u64) (h2 : IntKind.min .u64 ≤ x2) (_ : x2 ≤ IntKind.max .u64) (h3 : IntKind.min .u64 ≤ x3) (_ : x3 ≤ IntKind.max .u64)
    (h4 : IntKind.min .u64 ≤ x4) (_ : x4 ≤ IntKind.max .u64) (h5 : IntKind.min .u64 ≤ x5) (_ : x5 ≤ IntKind.max .u64) (h6 : IntKind.min .u64 ≤ x6) (_ : x6 ≤ IntKind.max .u64) (_ : IntKind.min .u64 ≤ x7) (_ : x7 ≤ IntKind.max .u64) :
    (T_CrcSeals x0 x1 x2 x3 x4 x5 x6 x7).sat fun r => r = [.b true] := by
  have h0 : 0 ≤ x0 := h0
  have h1 : 0 ≤ x1 := h1
  have h2 : 0 ≤ x2 := h2
  have h3 : 0 ≤ x3 := h3
  have h4 : 0 ≤ x4 := h4
  have h5 : 0 ≤ x5 := h5
  have h6 : 0 ≤ x6 := h6
  have s7 := seal_7 h0 h1 h2 h3 h4 h5 h6
  have r7 := rseal_7 h0 h1 h2 h3 h4 h5 h6
  have g1 := fun y => good_eq y h0 h1 h2 h3 h4 h5 h6
  have g2 := fun y => rgood_eq y h0 h1 h2 h3 h4 h5 h6
  have hsw : ∀ y : Int, (y == ((sealN (words7 x0 x1 x2 x3 x4 x5 x6) : Nat) : Int)) = (((sealN (words7 x0 x1 x2 x3 x4 x5 x6) : Nat) : Int) == y) := fun y => by
    rw [Bool.eq_iff_iff]; simp only [beq_iff_eq]; exact eq_comm
  simp only [T_CrcSeals, Tr.sat_br, Tr.sat_ok, Tr.sat_no, ok_seal, ok_rseal, good_ok, rgood_ok, seal_0, seal_1, seal_2, seal_3, seal_4, seal_5, seal_6, rseal_0, rseal_1, rseal_2, rseal_3, rseal_4, rseal_5, rseal_6, s7, r7, g1, g2, hsw]
  simp
end Go.Proofs.Ytpgfnccagiiknaa.G

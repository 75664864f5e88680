/-
  The plain law of SuperBest.
-/
import Derived.Test.YtgmhggipaopoiaaG4
import Derived.Test.YtgmhggipaopoiaaV0
namespace Go.Proofs.Ytgmhggipaopoiaa.G
open Go Go.AM Go.Proofs

theorem read_no {x0 x1 x2 x3 x4 x5 x6 x7 : Int} (h : r_sRead_4 x0 x1 x2 x3 x4 x5 x6 x7 = false) : r_sRead_0 x0 x1 x2 x3 x4 x5 x6 x7 = 0 ∧ r_sRead_1 x0 x1 x2 x3 x4 x5 x6 x7 = 0 ∧ r_sRead_2 x0 x1 x2 x3 x4 x5 x6 x7 = 0 ∧ r_sRead_3 x0 x1 x2 x3 x4 x5 x6 x7 = 0 := by
  revert h
  simp only [r_sRead_0, r_sRead_1, r_sRead_2, r_sRead_3, r_sRead_4, sk, cond_true]
  generalize (r_sLine_8 _ _ _ _ != 0) = a
  generalize (!(_ && _)) = b
  cases a <;> cases b <;> simp

theorem vc_SuperBest (x0 x1 x2 x3 x4 x5 x6 x7 x8 x9 x10 x11 x12 x13 x14 x15 : Int) (_ : IntKind.min .u64 ≤ x0) (_ : x0 ≤ IntKind.max .u64) (_ : IntKind.min .u64 ≤ x1) (_ : x1 ≤ IntKind.max .u64) (_ : IntKind.min .u64 ≤ x2) (_ : x2 ≤ IntKind.max .u64) (_ : IntKind.min .u64 ≤ x3) (_ : x3 ≤ IntKind.max .u64) (_ : IntKind.min .u64 ≤ x4) (_ : x4 ≤ IntKind.max .u64) (_ : IntKind.min .u64 ≤ x5) (_ : x5 ≤ IntKind.max .u64) (_ : IntKind.min .u64 ≤ x6) (_ : x6 ≤ IntKind.max .u64) (_ : IntKind.min .u64 ≤ x7) (_ : x7 ≤ IntKind.max .u64) (_ : IntKind.min .u64 ≤ x8) (_ : x8 ≤ IntKind.max .u64) (_ : IntKind.min .u64 ≤ x9) (_ : x9 ≤ IntKind.max .u64) (_ : IntKind.min .u64 ≤ x10) (_ : x10 ≤ IntKind.max .u64) (_ : IntKind.min .u64 ≤ x11) (_ : x11 ≤ IntKind.max .u64) (_ : IntKind.min .u64 ≤ x12) (_ : x12 ≤ IntKind.max .u64) (_ : IntKind.min .u64 ≤ x13) (_ : x13 ≤ IntKind.max .u64) (_ : IntKind.min .u64 ≤ x14) (_ : x14 ≤ IntKind.max .u64) (_ : IntKind.min .u64 ≤ x15) (_ : x15 ≤ IntKind.max .u64) :
    (T_SuperBest x0 x1 x2 x3 x4 x5 x6 x7 x8 x9 x10 x11 x12 x13 x14 x15).sat fun r => r = [.b true] := by
  simp only [T_SuperBest, Tr.sat_br, Tr.sat_ok, Tr.sat_no, r_sBest_0, r_rBest_0, r_sBest_1, r_rBest_1, r_sBest_2, r_rBest_2, r_sBest_3, r_rBest_3, r_sBest_4, r_rBest_4, r_sBest_5, r_rBest_5, ok_sBest, ok_rBest, u0, u1, u2, u3, u4, rk, uk, cond_true]
  cases hp : r_sRead_4 x0 x1 x2 x3 x4 x5 x6 x7 <;> cases hq : r_sRead_4 x8 x9 x10 x11 x12 x13 x14 x15
  · obtain ⟨p0, p1, p2, p3⟩ := read_no hp
    simp [p0, p1, p2, p3]
  · simp
  · simp
  · cases hd : decide (r_sRead_0 x8 x9 x10 x11 x12 x13 x14 x15 > r_sRead_0 x0 x1 x2 x3 x4 x5 x6 x7) <;> simp
end Go.Proofs.Ytgmhggipaopoiaa.G

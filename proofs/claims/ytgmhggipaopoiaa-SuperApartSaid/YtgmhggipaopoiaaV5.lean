/-
  The plain law of SuperBack.
-/
import Derived.Test.YtgmhggipaopoiaaG5
import Derived.Test.YtgmhggipaopoiaaV0
namespace Go.Proofs.Ytgmhggipaopoiaa.G
open Go Go.AM Go.Proofs

theorem read_line {x0 x1 x2 x3 : Int} (hs : sb x0 x1 x2 x3 = true) :
    r_sRead_4 (r_sLine_0 x0 x1 x2 x3) (r_sLine_1 x0 x1 x2 x3) (r_sLine_2 x0 x1 x2 x3) (r_sLine_3 x0 x1 x2 x3) (r_sLine_4 x0 x1 x2 x3) (r_sLine_5 x0 x1 x2 x3) (r_sLine_6 x0 x1 x2 x3) (r_sLine_7 x0 x1 x2 x3) = true ∧ r_sRead_0 (r_sLine_0 x0 x1 x2 x3) (r_sLine_1 x0 x1 x2 x3) (r_sLine_2 x0 x1 x2 x3) (r_sLine_3 x0 x1 x2 x3) (r_sLine_4 x0 x1 x2 x3) (r_sLine_5 x0 x1 x2 x3) (r_sLine_6 x0 x1 x2 x3) (r_sLine_7 x0 x1 x2 x3) = x0 ∧ r_sRead_1 (r_sLine_0 x0 x1 x2 x3) (r_sLine_1 x0 x1 x2 x3) (r_sLine_2 x0 x1 x2 x3) (r_sLine_3 x0 x1 x2 x3) (r_sLine_4 x0 x1 x2 x3) (r_sLine_5 x0 x1 x2 x3) (r_sLine_6 x0 x1 x2 x3) (r_sLine_7 x0 x1 x2 x3) = x1 ∧ r_sRead_2 (r_sLine_0 x0 x1 x2 x3) (r_sLine_1 x0 x1 x2 x3) (r_sLine_2 x0 x1 x2 x3) (r_sLine_3 x0 x1 x2 x3) (r_sLine_4 x0 x1 x2 x3) (r_sLine_5 x0 x1 x2 x3) (r_sLine_6 x0 x1 x2 x3) (r_sLine_7 x0 x1 x2 x3) = x2 ∧ r_sRead_3 (r_sLine_0 x0 x1 x2 x3) (r_sLine_1 x0 x1 x2 x3) (r_sLine_2 x0 x1 x2 x3) (r_sLine_3 x0 x1 x2 x3) (r_sLine_4 x0 x1 x2 x3) (r_sLine_5 x0 x1 x2 x3) (r_sLine_6 x0 x1 x2 x3) (r_sLine_7 x0 x1 x2 x3) = x3 := by
  have hr := hs
  simp only [sb, decide_eq_true_eq] at hr
  have k0 : IntKind.wrap IntKind.i64 (r_sLine_1 x0 x1 x2 x3) = x0 := by
    rw [s1, hs, cond_true, wrap_u64 (by omega) (by omega), wrap_i64 (by omega) (by omega)]
  have k1 : IntKind.wrap IntKind.i64 (r_sLine_2 x0 x1 x2 x3) = x1 := by
    rw [s2, hs, cond_true, wrap_u64 (by omega) (by omega), wrap_i64 (by omega) (by omega)]
  have k2 : IntKind.wrap IntKind.i64 (r_sLine_3 x0 x1 x2 x3) = x2 := by
    rw [s3, hs, cond_true, wrap_u64 (by omega) (by omega), wrap_i64 (by omega) (by omega)]
  have k3 : IntKind.wrap IntKind.i64 (r_sLine_4 x0 x1 x2 x3) = x3 := by
    rw [s4, hs, cond_true, wrap_u64 (by omega) (by omega), wrap_i64 (by omega) (by omega)]
  have e8 : r_sLine_8 x0 x1 x2 x3 = 0 := by rw [s8, hs]; rfl
  simp only [r_sRead_0, r_sRead_1, r_sRead_2, r_sRead_3, r_sRead_4, k0, k1, k2, k3, sk, e8, beq_self_eq_true, cond_true]
  simp

theorem vc_SuperBack (x0 x1 x2 x3 : Int) (_ : IntKind.min .i64 ≤ x0) (_ : x0 ≤ IntKind.max .i64) (_ : IntKind.min .i64 ≤ x1) (_ : x1 ≤ IntKind.max .i64) (_ : IntKind.min .i64 ≤ x2) (_ : x2 ≤ IntKind.max .i64) (_ : IntKind.min .i64 ≤ x3) (_ : x3 ≤ IntKind.max .i64) :
    (T_SuperBack x0 x1 x2 x3).sat fun r => r = [.b true] := by
  cases hs : sb x0 x1 x2 x3 with
  | false =>
    simp only [T_SuperBack, Tr.sat_br, Tr.sat_ok, Tr.sat_no, sk, s0, s1, s2, s3, s4, s5, s6, s7, s8, hs, cond_false]
    simp
  | true =>
    obtain ⟨q4, q0, q1, q2, q3⟩ := read_line hs
    have e8 : r_sLine_8 x0 x1 x2 x3 = 0 := by rw [s8, hs]; rfl
    have hg : r_crcGood_0 (r_sLine_0 x0 x1 x2 x3) (r_sLine_1 x0 x1 x2 x3) (r_sLine_2 x0 x1 x2 x3) (r_sLine_3 x0 x1 x2 x3) (r_sLine_4 x0 x1 x2 x3) (r_sLine_5 x0 x1 x2 x3) (r_sLine_6 x0 x1 x2 x3) (r_sLine_7 x0 x1 x2 x3) = true := by
      simp only [s0, s1, s2, s3, s4, s5, s6, s7, hs, cond_true]
      rw [good_eq _ (by decide) (wu x0) (wu x1) (wu x2) (wu x3) (by decide) (by decide)]
      simp [sealS]
    simp only [T_SuperBack, Tr.sat_br, Tr.sat_ok, Tr.sat_no, sk, rk, good_ok, e8, q0, q1, q2, q3, q4, hg, beq_self_eq_true]
    simp
end Go.Proofs.Ytgmhggipaopoiaa.G

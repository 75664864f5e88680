/-
  The plain law of CrcSpare.
-/
import Derived.Test.YtpgfnccagiiknaaG7
import Derived.Test.YtpgfnccagiiknaaV0
namespace Go.Proofs.Ytpgfnccagiiknaa.G
open Go Go.AM Go.Proofs

theorem vc_CrcSpare (n0 : Nat) (g0 : Nat → Nat → Int) (n1 : Nat) (g1 : Nat → Nat → Int) (_b0 : n0 ≤ maxLen) (w0 : ∀ (i c : Nat) (k : SK), i < n0 → [SK.n .u8][c]? = some k → wfS k (g0 i c))
    (_b1 : n1 ≤ maxLen) (w1 : ∀ (i c : Nat) (k : SK), i < n1 → [SK.n .u8][c]? = some k → wfS k (g1 i c)) :
    (T_CrcSpare n0 g0 n1 g1).sat fun r => r = [.b true] := by
  obtain ⟨f1, f2, f3⟩ := few_eq n0 n0 g0
  obtain ⟨p1, p2, p3⟩ := few_eq n1 n1 g1
  have hk : min n0 300 < 9223372036854775807 := by omega
  have hb0 := bytes_of (m := min n0 300) w0 (by omega)
  have hle : min n0 300 ≤ 1073741824 := by omega
  have hle2 : min n0 300 + min n1 300 ≤ 1073741824 := by omega
  have hap : (fun (j cc : Nat) => appG (appG (fun _ _ => (0 : Int)) 0 fun j c => g0 j c) (min n0 300) (fun j c => g1 j c) j cc) = fun j cc => appG g0 (min n0 300) g1 j cc := by
    funext j cc
    simp [appG]
  have ht : Int.toNat (((min n0 300 : Nat)) : Int) - 0 = min n0 300 := by omega
  have q1 : decide ((0 : Int) ≤ ((min n0 300 : Nat) : Int)) = true := by simp
  have q2 : decide (((min n0 300 : Nat) : Int) ≤ ((min n0 300 + min n1 300 : Nat) : Int)) = true := by simp only [decide_eq_true_eq]; omega
  obtain ⟨a1, a2⟩ := crcSum_eq (n := min n0 300) (fun j cc => g0 j cc) hk
  obtain ⟨d1, d2⟩ := crcSum_eq (n := min n0 300) (fun j cc => appG g0 (min n0 300) g1 j cc) hk
  have e1 : sumBy crcStep 0 (min n0 300) (fun j => appG g0 (min n0 300) g1 j 0) = sumBy crcStep 0 (min n0 300) (fun j => g0 j 0) := by
    have hc : IsBytes (min n0 300) fun j => appG g0 (min n0 300) g1 j 0 := fun j hj => by
      show 0 ≤ appG g0 (min n0 300) g1 j 0 ∧ appG g0 (min n0 300) g1 j 0 < 256
      unfold appG
      simp only [hj, if_true]
      exact hb0 j hj
    have h1 := sumBy_nat (f := crcStep) (fun _ h => crcStep_nat h) hb0 (x := 0) (by decide)
    have h3 := sumBy_nat (f := crcStep) (fun _ h => crcStep_nat h) hc (x := 0) (by decide)
    rw [show ((0 : Nat) : Int) = 0 from rfl] at h1 h3
    rw [h1, h3]
    congr 1
    refine crcN_congr fun j hj => ?_
    show (appG g0 (min n0 300) g1 j 0).toNat = _
    simp [appG, hj, natB]
  simp only [T_CrcSpare, f1, f2, f3, p1, p2, p3, Nat.zero_add, hap, ht, q1, q2, Tr.sat_br, Tr.sat_ok, Tr.sat_no, a1, a2, d1, d2, e1, hle, hle2, beq_self_eq_true, decide_true, Bool.and_self]
  simp
  have e : (((min n0 300 : Nat) : Int) + ((min n1 300 : Nat) : Int)).toNat - min n0 300 = min n1 300 := by omega
  rw [e]
  refine List.map_congr_left fun j _ => ?_
  have h : ¬ min n0 300 + j < min n0 300 := by omega
  simp [appG, h]
end Go.Proofs.Ytpgfnccagiiknaa.G

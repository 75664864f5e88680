/-
  The plain law of CrcParts.
-/
import Derived.Test.YtpgfnccagiiknaaG4
import Derived.Test.YtpgfnccagiiknaaV0
namespace Go.Proofs.Ytpgfnccagiiknaa.G
open Go Go.AM Go.Proofs

theorem sum_append {m n : Nat} {a b : Nat → Nat → Int} (ha : IsBytes m fun j => a j 0) (hb : IsBytes n fun j => b j 0) :
    sumBy crcStep (sumBy crcStep 0 m fun j => a j 0) n (fun j => b j 0) = sumBy crcStep 0 (m + n) (fun j => appG a m b j 0) := by
  have hc : IsBytes (m + n) fun j => appG a m b j 0 := fun j hj => by
    show 0 ≤ appG a m b j 0 ∧ appG a m b j 0 < 256
    unfold appG
    by_cases h : j < m
    · simp only [h, if_true]; exact ha j h
    · simp only [h, if_false]; exact hb (j - m) (by omega)
  have h1 := sumBy_nat (f := crcStep) (fun _ h => crcStep_nat h) ha (x := 0) (by decide)
  have h3 := sumBy_nat (f := crcStep) (fun _ h => crcStep_nat h) hc (x := 0) (by decide)
  have hl := crcN_lt (x := 0) (natB_lt ha) (by decide)
  have h2 := sumBy_nat (f := crcStep) (fun _ h => crcStep_nat h) hb hl
  rw [show ((0 : Nat) : Int) = 0 from rfl] at h1 h3
  rw [h1, h2, h3]
  congr 1
  refine crcN_two (fun j hj => ?_) fun j hj => ?_
  · show (appG a m b j 0).toNat = _
    simp [appG, hj, natB]
  · show (appG a m b (m + j) 0).toNat = _
    have h : ¬ m + j < m := by omega
    simp [appG, natB, h]

theorem vc_CrcParts (n0 : Nat) (g0 : Nat → Nat → Int) (n1 : Nat) (g1 : Nat → Nat → Int) (_b0 : n0 ≤ maxLen) (w0 : ∀ (i c : Nat) (k : SK), i < n0 → [SK.n .u8][c]? = some k → wfS k (g0 i c))
    (_b1 : n1 ≤ maxLen) (w1 : ∀ (i c : Nat) (k : SK), i < n1 → [SK.n .u8][c]? = some k → wfS k (g1 i c)) :
    (T_CrcParts n0 g0 n1 g1).sat fun r => r = [.b true] := by
  obtain ⟨f1, f2, f3⟩ := few_eq n0 n0 g0
  obtain ⟨p1, p2, p3⟩ := few_eq n1 n1 g1
  have hk : min n0 300 < 9223372036854775807 := by omega
  have hk1 : min n1 300 < 9223372036854775807 := by omega
  have hk2 : min n0 300 + min n1 300 < 9223372036854775807 := by omega
  have hb0 := bytes_of (m := min n0 300) w0 (by omega)
  have hb1 := bytes_of (m := min n1 300) w1 (by omega)
  have hle : min n0 300 ≤ 1073741824 := by omega
  have hle2 : min n0 300 + min n1 300 ≤ 1073741824 := by omega
  have hap : (fun (j cc : Nat) => appG (appG (fun _ _ => (0 : Int)) 0 fun j c => g0 j c) (min n0 300) (fun j c => g1 j c) j cc) = fun j cc => appG g0 (min n0 300) g1 j cc := by
    funext j cc
    simp [appG]
  obtain ⟨a1, a2⟩ := crcSum_eq (n := min n0 300) (fun j cc => g0 j cc) hk
  obtain ⟨b1, b2⟩ := crcSum_eq (n := min n1 300) (fun j cc => g1 j cc) hk1
  obtain ⟨c1, c2⟩ := crcMore_eq (sumBy crcStep 0 (min n0 300) fun j => g0 j 0) (n := min n1 300) (fun j cc => g1 j cc) hk1
  obtain ⟨d1, d2⟩ := crcSum_eq (n := min n0 300 + min n1 300) (fun j cc => appG g0 (min n0 300) g1 j cc) hk2
  obtain ⟨i1, i2⟩ := crcMore_eq (sumBy crcStep 0 (min n0 300 + min n1 300) fun j => appG g0 (min n0 300) g1 j 0) (n := 0) (fun _ _ => 0) (by decide)
  obtain ⟨j1, j2⟩ := crcMore_eq 0 (n := min n1 300) (fun j cc => g1 j cc) hk1
  have e1 := sum_append hb0 hb1
  have hz : sumBy crcStep (sumBy crcStep 0 (min n0 300 + min n1 300) fun j => appG g0 (min n0 300) g1 j 0) 0 (fun _ => 0) = sumBy crcStep 0 (min n0 300 + min n1 300) fun j => appG g0 (min n0 300) g1 j 0 := by
    rw [← e1]
    have h1 := sumBy_nat (f := crcStep) (fun _ h => crcStep_nat h) hb0 (x := 0) (by decide)
    have hl := crcN_lt (x := 0) (natB_lt hb0) (by decide)
    have h2 := sumBy_nat (f := crcStep) (fun _ h => crcStep_nat h) hb1 hl
    have hl2 := crcN_lt (natB_lt hb1) hl
    have h3 := sumBy_nat (f := crcStep) (fun _ h => crcStep_nat h) (b := fun _ => 0) (m := 0) (fun j hj => by omega) hl2
    rw [show ((0 : Nat) : Int) = 0 from rfl] at h1
    rw [h1, h2, h3, crcN_zero]
  simp only [T_CrcParts, f1, f2, f3, p1, p2, p3, Nat.zero_add, hap, Tr.sat_br, Tr.sat_ok, Tr.sat_no, a1, a2, b1, b2, c1, c2, d1, d2, e1, i1, i2, j1, j2, hz, hle, hle2, beq_self_eq_true, decide_true]
  simp
end Go.Proofs.Ytpgfnccagiiknaa.G

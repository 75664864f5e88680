/-
  The plain law of CrcSums.
-/
import Derived.Test.YtpgfnccagiiknaaG3
import Derived.Test.YtpgfnccagiiknaaV0
namespace Go.Proofs.Ytpgfnccagiiknaa.G
open Go Go.AM Go.Proofs

theorem vc_CrcSums (x0 : Int) (n1 : Nat) (g1 : Nat → Nat → Int) (h0 : IntKind.min .u32 ≤ x0) (h1 : x0 ≤ IntKind.max .u32) (_b : n1 ≤ maxLen) (w : ∀ (i c : Nat) (k : SK), i < n1 → [SK.n .u8][c]? = some k → wfS k (g1 i c)) :
    (T_CrcSums x0 n1 g1).sat fun r => r = [.b true] := by
  have h0 : 0 ≤ x0 := h0
  have h1 : x0 ≤ 4294967295 := h1
  obtain ⟨f1, f2, f3⟩ := few_eq n1 n1 g1
  have hk : min n1 300 < 9223372036854775807 := by omega
  have hb := bytes_of (m := min n1 300) w (by omega)
  have hle : min n1 300 ≤ 1073741824 := by omega
  obtain ⟨a1, a2⟩ := crcSum_eq (n := min n1 300) (fun j cc => g1 j cc) hk
  obtain ⟨b1, b2⟩ := refSum_eq (n := min n1 300) (fun j cc => g1 j cc) hk
  obtain ⟨c1, c2⟩ := crcMore_eq x0 (n := min n1 300) (fun j cc => g1 j cc) hk
  obtain ⟨d1, d2⟩ := refMore_eq x0 (n := min n1 300) (fun j cc => g1 j cc) hk
  have e1 := sums_same (x := 0) hb (by decide) (by decide)
  have e2 := sums_same (x := x0) hb h0 (by omega)
  simp only [T_CrcSums, f1, f2, f3, appG_zero, Nat.zero_add, Tr.sat_br, Tr.sat_ok, Tr.sat_no, a1, a2, b1, b2, c1, c2, d1, d2, e1, e2, hle, beq_self_eq_true, decide_true]
  simp
end Go.Proofs.Ytpgfnccagiiknaa.G

/-
  The plain law of CrcThree.
-/
import Derived.Test.YtpgfnccagiiknaaG6
import Derived.Test.YtpgfnccagiiknaaV0
namespace Go.Proofs.Ytpgfnccagiiknaa.G
open Go Go.AM Go.Proofs

theorem xor_byte {a b : Int} (ha : 0 ≤ a ∧ a < 256) (hb : 0 ≤ b ∧ b < 256) : bits BinOp.xor IntKind.u8 a b = ((a.toNat ^^^ b.toNat : Nat) : Int) := by
  obtain ⟨m, rfl⟩ := Int.eq_ofNat_of_zero_le ha.1
  obtain ⟨n, rfl⟩ := Int.eq_ofNat_of_zero_le hb.1
  exact u8_xor_nat m n (by omega) (by omega)

theorem nat_byte {a : Int} (ha : 0 ≤ a ∧ a < 256) : a.toNat < 256 := by omega
theorem xor_lt8 {a b : Nat} (ha : a < 256) (hb : b < 256) : a ^^^ b < 256 := Nat.xor_lt_two_pow (n := 8) ha hb

theorem xor3_nat {a b c : Int} (ha : 0 ≤ a ∧ a < 256) (hb : 0 ≤ b ∧ b < 256) (hc : 0 ≤ c ∧ c < 256) : xor3 a b c = ((a.toNat ^^^ b.toNat ^^^ c.toNat : Nat) : Int) := by
  unfold xor3
  rw [xor_byte ha hb]
  have h := xor_lt8 (nat_byte ha) (nat_byte hb)
  rw [xor_byte ⟨by omega, by omega⟩ hc]
  rfl

theorem vc_CrcThree (n0 : Nat) (g0 : Nat → Nat → Int) (n1 : Nat) (g1 : Nat → Nat → Int) (n2 : Nat) (g2 : Nat → Nat → Int)
    (_b0 : n0 ≤ maxLen) (w0 : ∀ (i c : Nat) (k : SK), i < n0 → [SK.n .u8][c]? = some k → wfS k (g0 i c))
    (_b1 : n1 ≤ maxLen) (w1 : ∀ (i c : Nat) (k : SK), i < n1 → [SK.n .u8][c]? = some k → wfS k (g1 i c))
    (_b2 : n2 ≤ maxLen) (w2 : ∀ (i c : Nat) (k : SK), i < n2 → [SK.n .u8][c]? = some k → wfS k (g2 i c)) :
    (T_CrcThree n0 g0 n1 g1 n2 g2).sat fun r => r = [.b true] := by
  obtain ⟨f1, f2, f3⟩ := few_eq n0 n0 g0
  obtain ⟨p1, p2, p3⟩ := few_eq n1 n1 g1
  obtain ⟨q1, q2, q3⟩ := few_eq n2 n2 g2
  obtain ⟨m, hm⟩ : ∃ m, m = min (min (min n0 300) (min n1 300)) (min n2 300) := ⟨_, rfl⟩
  have h8 : CrcThree_c8 n0 g0 n1 g1 n2 g2 = ((min (min n0 300) (min n1 300) : Nat) : Int) := by
    unfold CrcThree_c8
    rw [f3, p3]
    split <;> omega
  have h14 : CrcThree_c14 n0 g0 n1 g1 n2 g2 = (m : Int) := by
    unfold CrcThree_c14
    rw [h8, q3]
    split <;> omega
  have h12 : CrcThree_c12 n0 g0 n1 g1 n2 g2 = m := by
    have : CrcThree_c12 n0 g0 n1 g1 n2 g2 = (CrcThree_c14 n0 g0 n1 g1 n2 g2).toNat := rfl
    rw [this, h14]; rfl
  have h13 : CrcThree_c13 n0 g0 n1 g1 n2 g2 = m := by
    have : CrcThree_c13 n0 g0 n1 g1 n2 g2 = CrcThree_c12 n0 g0 n1 g1 n2 g2 - 0 := rfl
    rw [this, h12]; rfl
  have hk : m < 9223372036854775807 := by omega
  have hb0 := bytes_of (m := m) w0 (by omega)
  have hb1 := bytes_of (m := m) w1 (by omega)
  have hb2 := bytes_of (m := m) w2 (by omega)
  have hth : thOk n0 n1 n2 (m : Int) 0 0 = true := by
    simp only [thOk, decide_eq_true_eq]
    omega
  have d0 : decide ((0 : Int) ≤ (m : Int)) = true := by simp
  have d1 : decide ((m : Int) ≤ (n0 : Int)) = true := by simp only [decide_eq_true_eq]; omega
  have d2 : decide ((m : Int) ≤ (n1 : Int)) = true := by simp only [decide_eq_true_eq]; omega
  have d3 : decide ((m : Int) ≤ (n2 : Int)) = true := by simp only [decide_eq_true_eq]; omega
  obtain ⟨a1, a2⟩ := crcSum_eq (n := m) (fun j cc => g0 j cc) hk
  obtain ⟨b1, b2⟩ := crcSum_eq (n := m) (fun j cc => g1 j cc) hk
  obtain ⟨c1, c2⟩ := crcSum_eq (n := m) (fun j cc => g2 j cc) hk
  obtain ⟨e1, e2⟩ := crcSum_eq (n := m) (fun j cc => three 0 0 0 g0 g1 g2 0 (fun _ _ => 0) j cc) hk
  have hv : ∀ j, j < m → three 0 0 0 g0 g1 g2 0 (fun _ _ => 0) j 0 = ((natB (fun j => g0 j 0) j ^^^ natB (fun j => g1 j 0) j ^^^ natB (fun j => g2 j 0) j : Nat) : Int) := fun j hj => by
    have : three 0 0 0 g0 g1 g2 0 (fun _ _ => 0) j 0 = xor3 (g0 j 0) (g1 j 0) (g2 j 0) := by
      simp [three, rowsF]
    rw [this, xor3_nat (hb0 j hj) (hb1 j hj) (hb2 j hj)]
    rfl
  have hb3 : IsBytes m fun j => three 0 0 0 g0 g1 g2 0 (fun _ _ => 0) j 0 := fun j hj => by
    show 0 ≤ three 0 0 0 g0 g1 g2 0 (fun _ _ => 0) j 0 ∧ three 0 0 0 g0 g1 g2 0 (fun _ _ => 0) j 0 < 256
    rw [hv j hj]
    have := xor_lt8 (xor_lt8 (natB_lt hb0 j hj) (natB_lt hb1 j hj)) (natB_lt hb2 j hj)
    omega
  have s0 := sumBy_nat (f := crcStep) (fun _ h => crcStep_nat h) hb0 (x := 0) (by decide)
  have s1 := sumBy_nat (f := crcStep) (fun _ h => crcStep_nat h) hb1 (x := 0) (by decide)
  have s2 := sumBy_nat (f := crcStep) (fun _ h => crcStep_nat h) hb2 (x := 0) (by decide)
  have s3 := sumBy_nat (f := crcStep) (fun _ h => crcStep_nat h) hb3 (x := 0) (by decide)
  rw [show ((0 : Nat) : Int) = 0 from rfl] at s0 s1 s2 s3
  have l0 := crcN_lt (x := 0) (natB_lt hb0) (by decide)
  have l1 := crcN_lt (x := 0) (natB_lt hb1) (by decide)
  have l2 := crcN_lt (x := 0) (natB_lt hb2) (by decide)
  have hx : bits BinOp.xor IntKind.u32 (bits BinOp.xor IntKind.u32 (sumBy crcStep 0 m fun j => g0 j 0) (sumBy crcStep 0 m fun j => g1 j 0)) (sumBy crcStep 0 m fun j => g2 j 0) = sumBy crcStep 0 m fun j => three 0 0 0 g0 g1 g2 0 (fun _ _ => 0) j 0 := by
    rw [s0, s1, s2, s3, u32_xor_nat _ _ l0 l1, u32_xor_nat _ _ (xor_lt32 l0 l1) l2, crcN_three]
    congr 1
    refine crcN_congr fun j hj => ?_
    show _ = (three 0 0 0 g0 g1 g2 0 (fun _ _ => 0) j 0).toNat
    rw [hv j hj]
    rfl
  simp only [T_CrcThree, f1, p1, q1, h12, h13, h14, hth, Nat.zero_add, d0, d1, d2, d3, Tr.sat_br, Tr.sat_ok, Tr.sat_no, a1, a2, b1, b2, c1, c2, e1, e2, hx, beq_self_eq_true, Bool.and_self]
  simp
end Go.Proofs.Ytpgfnccagiiknaa.G

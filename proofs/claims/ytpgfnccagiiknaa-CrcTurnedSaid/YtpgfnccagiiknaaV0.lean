/-
  What the laws of sums lean on.
-/
import Derived.Test.YtpgfnccagiiknaaG2
import Derived.Test.YtpgfnccagiiknaaCrcV
namespace Go.Proofs.Ytpgfnccagiiknaa.G
open Go Go.AM Go.Proofs

theorem few_eq (n m : Nat) (g : Nat → Nat → Int) : ok_few 0 n m g = true ∧ r_few_0 0 n m g = 0 ∧ r_few_1 0 n m g = min n 300 := by
  unfold ok_few r_few_0 r_few_1
  by_cases h : n > 300
  · have h1 : decide ((n : Int) > 300) = true := by simp; omega
    have h2 : decide ((300 : Int) ≤ (n : Int)) = true := by simp; omega
    rw [h1, h2]
    simp; omega
  · have h1 : decide ((n : Int) > 300) = false := by simp; omega
    rw [h1]
    simp; omega

theorem appG_zero (g s : Nat → Nat → Int) (i c : Nat) : appG g 0 s i c = s i c := by simp [appG]

theorem refMore_eq (x : Int) {n : Nat} (g : Nat → Nat → Int) (h : n < 9223372036854775807) : ok_refMore x n g = true ∧ r_refMore_0 x n g = sumBy refStep x n (fun j => g j 0) := by
  obtain ⟨h1, h2⟩ := refReg_eq (bits BinOp.xor IntKind.u32 4294967295 x) (fun j cc => g (0 + j) cc) h
  unfold ok_refMore r_refMore_0
  rw [h1, h2]
  refine ⟨rfl, ?_⟩
  unfold sumBy
  simp

/-- The rows are bytes. -/
theorem bytes_of {n m : Nat} {g : Nat → Nat → Int} (w : ∀ (i c : Nat) (k : SK), i < n → [SK.n .u8][c]? = some k → wfS k (g i c)) (h : m ≤ n) : IsBytes m (fun j => g j 0) := fun j hj => by
  obtain ⟨h1, h2⟩ := w j 0 (.n .u8) (by omega) rfl
  have h1 : 0 ≤ g j 0 := h1
  have h2 : g j 0 ≤ 255 := h2
  exact ⟨h1, show g j 0 < 256 by omega⟩

theorem sums_same {x : Int} {m : Nat} {b : Nat → Int} (hb : IsBytes m b) (h0 : 0 ≤ x) (h1 : x < 4294967296) : sumBy crcStep x m b = sumBy refStep x m b := by
  obtain ⟨n, rfl⟩ := Int.eq_ofNat_of_zero_le h0
  have hn : n < 4294967296 := by omega
  exact (sumBy_nat (fun _ h => crcStep_nat h) hb hn).trans (sumBy_nat (fun _ h => refStep_nat h) hb hn).symm
end Go.Proofs.Ytpgfnccagiiknaa.G

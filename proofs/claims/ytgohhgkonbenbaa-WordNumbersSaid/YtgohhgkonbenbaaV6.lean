/-
  The plain law of WordNumbers.
-/
import Derived.Test.YtgohhgkonbenbaaG6
import Derived.Test.YtgohhgkonbenbaaAmM
namespace Go.Proofs.Ytgohhgkonbenbaa.G
open Go Go.AM

theorem r16_17_0 (x0 x1 : Int) : r17_0 x0 x1 = r16_0 x0 x1 := rfl
theorem r16_17_1 (x0 x1 : Int) : r17_1 x0 x1 = r16_1 x0 x1 := rfl

theorem vc6 (x0 : Int) (x1 : Int) (l0 : IntKind.min .u64 ≤ x0) (u0 : x0 ≤ IntKind.max .u64) (l1 : IntKind.min .i64 ≤ x1) (u1 : x1 ≤ IntKind.max .i64) : (T6 x0 x1).sat fun r => r = tvb true := by
  have l0 : 0 ≤ x0 := l0
  have u0 : x0 ≤ 18446744073709551615 := u0
  have u1 : x1 ≤ 9223372036854775807 := u1
  have h0 : r16_0 x0 x1 = if x1 < 0 ∨ x1 < x0 then 0 else x0 := by
    unfold r16_0
    by_cases h1 : x1 < 0
    · simp [h1]
    · have := wrap_u64 (x := x1) (by omega) (by omega)
      by_cases h2 : x1 < x0
      · simp [this, h1, h2]
      · have := wrap_i64 (x := x0) (by omega) (by omega)
        simp [*]
  have h1 : r16_1 x0 x1 = if x1 < 0 ∨ x1 < x0 then 2 else 0 := by
    unfold r16_1
    by_cases h1 : x1 < 0
    · simp [h1]
    · have := wrap_u64 (x := x1) (by omega) (by omega)
      by_cases h2 : x1 < x0 <;> simp [*]
  have hw := wrap_u64 (x := x0) (by omega) (by omega)
  simp only [T6, Tr.sat_br, Tr.sat_ok, Tr.sat_no, r16_17_0, r16_17_1, h0, h1, tvb]
  by_cases h2 : x1 < 0 ∨ x1 < x0
  · simp [h2]
  · simp [h2, hw]
    omega
end Go.Proofs.Ytgohhgkonbenbaa.G

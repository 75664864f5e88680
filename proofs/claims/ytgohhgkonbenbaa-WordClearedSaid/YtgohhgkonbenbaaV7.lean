/-
  The plain laws of WordParts and WordCleared.
-/
import Derived.Test.YtgohhgkonbenbaaV4
namespace Go.Proofs.Ytgohhgkonbenbaa.G
open Go Go.AM

theorem vc7 (x0 : Int) (x1 : Int) (x2 : Int) (x3 : Int) (l0 : IntKind.min .u64 ≤ x0) (u0 : x0 ≤ IntKind.max .u64) (_l1 : IntKind.min .i64 ≤ x1) (_u1 : x1 ≤ IntKind.max .i64) (_l2 : IntKind.min .i64 ≤ x2) (_u2 : x2 ≤ IntKind.max .i64)
    (_l3 : IntKind.min .i64 ≤ x3) (_u3 : x3 ≤ IntKind.max .i64) : (T7 x0 x1 x2 x3).sat fun r => r = tvb true := by
  have l0 : 0 ≤ x0 := l0
  have u0 : x0 ≤ 18446744073709551615 := u0
  obtain ⟨n, rfl⟩ := nat_of l0
  have hn : n < 18446744073709551616 := by omega
  simp only [T7, Tr.sat_br, Tr.sat_ok, Tr.sat_no, q14, q14o, tvb]
  by_cases n1 : x1 < 0
  · simp [n1]
  by_cases n2 : x1 > 63
  · simp [n1, n2]
  by_cases n3 : x2 < 1
  · simp [n1, n2, n3]
  by_cases n4 : x2 > 64
  · simp [n1, n2, n3, n4]
  by_cases n5 : x3 < 1
  · simp [n1, n2, n3, n4, n5]
  by_cases n6 : x3 > 64
  · simp [n1, n2, n3, n4, n5, n6]
  obtain ⟨a, rfl⟩ := nat_of (x := x1) (by omega)
  obtain ⟨d, rfl⟩ := nat_of (x := x2) (by omega)
  obtain ⟨m, rfl⟩ := nat_of (x := x3) (by omega)
  have w1 := wrap_i64 (x := (a : Int) + d) (by omega) (by omega)
  have w2 := wrap_i64 (x := (a : Int) + d + m) (by omega) (by omega)
  have w3 := wrap_i64 (x := (d : Int) + m) (by omega) (by omega)
  rw [w1, w2, w3]
  by_cases n7 : (a : Int) + d + m > 64
  · simp [n1, n2, n3, n4, n5, n6, n7]
  · have n8 : (0 : Int) ≤ d := by omega
    obtain ⟨e1, e2⟩ := wField_eq (n := n) (a := a) (d := d + m) hn (by omega) (by omega)
    obtain ⟨f1, f2⟩ := wField_eq (n := n) (a := a) (d := d) hn (by omega) (by omega)
    obtain ⟨g1, g2⟩ := wField_eq (n := n) (a := a + d) (d := m) hn (by omega) (by omega)
    rw [Int.natCast_add] at e1 e2 g1 g2
    have lt := val_shift_lt (fieldN_lt n (a + d) m) (show d + m ≤ 64 by omega)
    have e : ((fieldN n (a + d) m : Nat) : Int) * 2 ^ d = ((fieldN n (a + d) m * 2 ^ d : Nat) : Int) := by simp
    have lf : fieldN n a d < 18446744073709551616 := by simpa using val_shift_lt (a := 0) (fieldN_lt n a d) (by omega)
    simp only [n1, n2, n3, n4, n5, n6, n7, n8, e1, e2, f1, f2, g1, g2, shift_u64 (show d ≤ 64 by omega), e]
    rw [wrap_u64 (by omega) (by omega), bits_or_u64_nat _ _ lf lt]
    have key : fieldN n a (d + m) = fieldN n a d ||| fieldN n (a + d) m * 2 ^ d := by
      apply Nat.eq_of_testBit_eq
      intro i
      rw [fieldN_bit, Nat.testBit_or, fieldN_bit, mul_pow_bit, fieldN_bit]
      by_cases hi : i < d
      · have : ¬ d ≤ i := by omega
        have h2 : i < d + m := by omega
        simp [hi, this, h2]
      · have h1 : d ≤ i := by omega
        have h2 : a + d + (i - d) = a + i := by omega
        have h3 : (i - d < m) = (i < d + m) := by apply propext; omega
        simp [hi, h1, h2, h3]
    simp [key]

theorem vc8 (x0 : Int) (x1 : Int) (x2 : Int) (l0 : IntKind.min .u64 ≤ x0) (u0 : x0 ≤ IntKind.max .u64) (_l1 : IntKind.min .i64 ≤ x1) (_u1 : x1 ≤ IntKind.max .i64) (_l2 : IntKind.min .i64 ≤ x2) (_u2 : x2 ≤ IntKind.max .i64) : (T8 x0 x1 x2).sat fun r => r = tvb true := by
  have l0 : 0 ≤ x0 := l0
  have u0 : x0 ≤ 18446744073709551615 := u0
  obtain ⟨n, rfl⟩ := nat_of l0
  have hn : n < 18446744073709551616 := by omega
  simp only [T8, Tr.sat_br, Tr.sat_ok, Tr.sat_no, q14, q14o, q12, q12e, q12o, tvb]
  cases hw : wIs x1 x2 with
  | false =>
    obtain ⟨e1, e2, e3⟩ := wWith_no (x := (n : Int)) (v := 0) hw
    simp [e2, e3]
  | true =>
    have hw' := (wIs_iff _ _).1 hw
    obtain ⟨a, rfl⟩ := nat_of (x := x1) (by omega)
    obtain ⟨d, rfl⟩ := nat_of (x := x2) (by omega)
    have hd : 1 ≤ d := by omega
    have had : a + d ≤ 64 := by omega
    have hp : 0 < 2 ^ d := Nat.two_pow_pos d
    have w1 := wrap_i64 (x := 64 - (d : Int)) (by omega) (by omega)
    have n1 : (0 : Int) ≤ 64 - d := by omega
    have n2 : (0 : Int) ≤ a := by omega
    have hs : shiftN IntKind.u64 (64 - (d : Int)) = 64 - d := by simp only [shiftN, IntKind.bits]; omega
    have hm := mask_all ⟨d, by omega⟩
    simp only at hm
    obtain ⟨e1, e2, e3⟩ := wWith_eq (v := 0) hn hd had hp
    obtain ⟨g1, g2, g3⟩ := wWith_eq (v := 2 ^ d - 1) hn hd had (by omega)
    obtain ⟨f1, f2⟩ := wField_eq hn hd had
    have hx := withN_lt (v := 0) hn hp had
    obtain ⟨h1, h2⟩ := wField_eq hx hd had
    have hy := withN_lt (v := 2 ^ d - 1) hn (by omega) had
    have lt := val_shift_lt (fieldN_lt n a d) had
    have e : ((fieldN n a d : Nat) : Int) * 2 ^ a = ((fieldN n a d * 2 ^ a : Nat) : Int) := by simp
    have e1' : wWith (n : Int) a d 0 = (withN n a d 0 : Int) := e1
    have e2' : wWithE (n : Int) a d 0 = 0 := e2
    have e3' : wWithOk (n : Int) a d 0 = true := e3
    simp only [w1, n1, n2, hs, hm, e1', e2', e3', g1, g2, g3, f1, f2, h1, h2, shift_u64 (show a ≤ 64 by omega), e]
    rw [wrap_u64 (x := ((fieldN n a d * 2 ^ a : Nat) : Int)) (by omega) (by omega), bits_or_u64_nat _ _ hx lt, bits_or_u64_nat _ _ hy hn]
    have c1 : withN n a d 0 ||| fieldN n a d * 2 ^ a = n := by
      apply Nat.eq_of_testBit_eq
      intro i
      rw [Nat.testBit_or, withN_bit hn hp had, mul_pow_bit, fieldN_bit]
      by_cases hi : a ≤ i
      · by_cases hj : i < a + d
        · have : i - a < d := by omega
          simp [hi, hj, this, show a + (i - a) = i by omega]
        · have : ¬ i - a < d := by omega
          simp [hi, hj, this]
      · simp [hi]
    have c2 : fieldN (withN n a d 0) a d = 0 := by
      apply Nat.eq_of_testBit_eq
      intro i
      rw [fieldN_bit, withN_bit hn hp had]
      by_cases hi : i < d
      · simp [hi]
      · simp [hi]
    have c3 : withN n a d (2 ^ d - 1) ||| n = withN n a d (2 ^ d - 1) := by
      apply Nat.eq_of_testBit_eq
      intro i
      rw [Nat.testBit_or, withN_bit hn (by omega) had, Nat.testBit_two_pow_sub_one]
      by_cases hi : a ≤ i ∧ i < a + d
      · have : i - a < d := by omega
        simp [hi, this]
      · simp [hi]
    have c4 : n ≤ withN n a d (2 ^ d - 1) := by
      rw [← c3]
      exact Nat.right_le_or
    rw [c1, c2, c3]
    simp
    omega
end Go.Proofs.Ytgohhgkonbenbaa.G

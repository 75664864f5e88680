/-
  The plain laws of WordBack, WordApart, WordParts and WordCleared.
-/
import Derived.Test.YtgohhgkonbenbaaG4
import Derived.Test.YtgohhgkonbenbaaAmW
namespace Go.Proofs.Ytgohhgkonbenbaa.G
open Go Go.AM

theorem q14 : r14_0 = wField := rfl
theorem q14o : ok14 = wFieldOk := rfl
theorem q12 : r12_0 = wWith := rfl
theorem q12e : r12_1 = wWithE := rfl
theorem q12o : ok12 = wWithOk := rfl

theorem nat_of {x : Int} (h : 0 ≤ x) : ∃ n : Nat, x = n := ⟨x.toNat, by omega⟩

theorem vc4 (x0 : Int) (x1 : Int) (x2 : Int) (x3 : Int) (l0 : IntKind.min .u64 ≤ x0) (u0 : x0 ≤ IntKind.max .u64) (_l1 : IntKind.min .i64 ≤ x1) (_u1 : x1 ≤ IntKind.max .i64) (_l2 : IntKind.min .i64 ≤ x2) (_u2 : x2 ≤ IntKind.max .i64) (l3 : IntKind.min .u64 ≤ x3) (u3 : x3 ≤ IntKind.max .u64) :
    (T4 x0 x1 x2 x3).sat fun r => r = tvb true := by
  have l0 : 0 ≤ x0 := l0
  have u0 : x0 ≤ 18446744073709551615 := u0
  have l3 : 0 ≤ x3 := l3
  have u3 : x3 ≤ 18446744073709551615 := u3
  obtain ⟨n, rfl⟩ := nat_of l0
  obtain ⟨v, rfl⟩ := nat_of l3
  have hn : n < 18446744073709551616 := by omega
  have hv : v < 18446744073709551616 := by omega
  simp only [T4, Tr.sat_br, Tr.sat_ok, Tr.sat_no, q14, q14o, q12, q12e, q12o, tvb]
  cases hw : wIs x1 x2 with
  | false =>
    obtain ⟨e1, e2, e3⟩ := wWith_no (x := (n : Int)) (v := (v : Int)) hw
    simp [e1, e2, e3]
  | true =>
    have hw' := (wIs_iff _ _).1 hw
    obtain ⟨a, rfl⟩ := nat_of (x := x1) (by omega)
    obtain ⟨d, rfl⟩ := nat_of (x := x2) (by omega)
    have hd : 1 ≤ d := by omega
    have had : a + d ≤ 64 := by omega
    by_cases hl : 2 ^ d ≤ v
    · obtain ⟨e1, e2, e3⟩ := wWith_long (n := n) hd had hv hl
      simp [e1, e2, e3]
    · have hl : v < 2 ^ d := by omega
      obtain ⟨e1, e2, e3⟩ := wWith_eq hn hd had hl
      obtain ⟨f1, f2⟩ := wField_eq hn hd had
      obtain ⟨g1, g2, g3⟩ := wWith_eq hn hd had (fieldN_lt n a d)
      have hx := withN_lt hn hl had
      obtain ⟨h1, h2⟩ := wField_eq hx hd had
      obtain ⟨i1, i2, i3⟩ := wWith_eq hx hd had (fieldN_lt n a d)
      simp only [e1, e2, e3, f1, f2, g1, g2, g3, h1, h2, i1, i2, i3]
      have c1 : fieldN (withN n a d v) a d = v := by
        apply Nat.eq_of_testBit_eq
        intro i
        rw [fieldN_bit, withN_bit hn hl had]
        by_cases hi : i < d
        · simp [hi]
        · have : v.testBit i = false := Nat.testBit_lt_two_pow (Nat.lt_of_lt_of_le hl (Nat.pow_le_pow_right (by decide) (by omega)))
          simp [hi, this]
      have c2 : withN n a d (fieldN n a d) = n := by
        apply Nat.eq_of_testBit_eq
        intro i
        rw [withN_bit hn (fieldN_lt n a d) had, fieldN_bit]
        by_cases hi : a ≤ i ∧ i < a + d
        · have : i - a < d := by omega
          rw [if_pos hi]
          simp [this, show a + (i - a) = i by omega]
        · rw [if_neg hi]
      have c3 : withN (withN n a d v) a d (fieldN n a d) = n := by
        apply Nat.eq_of_testBit_eq
        intro i
        rw [withN_bit hx (fieldN_lt n a d) had, fieldN_bit, withN_bit hn hl had]
        by_cases hi : a ≤ i ∧ i < a + d
        · have : i - a < d := by omega
          rw [if_pos hi]
          simp [this, show a + (i - a) = i by omega]
        · rw [if_neg hi, if_neg hi]
      simp [c1, c2, c3]

theorem vc5 (x0 : Int) (x1 : Int) (x2 : Int) (x3 : Int) (x4 : Int) (x5 : Int) (l0 : IntKind.min .u64 ≤ x0) (u0 : x0 ≤ IntKind.max .u64) (_l1 : IntKind.min .i64 ≤ x1) (_u1 : x1 ≤ IntKind.max .i64) (_l2 : IntKind.min .i64 ≤ x2) (_u2 : x2 ≤ IntKind.max .i64)
    (_l3 : IntKind.min .i64 ≤ x3) (_u3 : x3 ≤ IntKind.max .i64) (_l4 : IntKind.min .i64 ≤ x4) (_u4 : x4 ≤ IntKind.max .i64) (l5 : IntKind.min .u64 ≤ x5) (u5 : x5 ≤ IntKind.max .u64) :
    (T5 x0 x1 x2 x3 x4 x5).sat fun r => r = tvb true := by
  have l0 : 0 ≤ x0 := l0
  have u0 : x0 ≤ 18446744073709551615 := u0
  have l5 : 0 ≤ x5 := l5
  have u5 : x5 ≤ 18446744073709551615 := u5
  obtain ⟨n, rfl⟩ := nat_of l0
  obtain ⟨v, rfl⟩ := nat_of l5
  have hn : n < 18446744073709551616 := by omega
  have hv : v < 18446744073709551616 := by omega
  simp only [T5, Tr.sat_br, Tr.sat_ok, Tr.sat_no, q14, q14o, q12, q12e, q12o, tvb]
  cases hw : wIs x1 x2 with
  | false =>
    obtain ⟨e1, e2, e3⟩ := wWith_no (x := (n : Int)) (v := (v : Int)) hw
    simp [e2, e3]
  | true =>
    have hw' := (wIs_iff _ _).1 hw
    obtain ⟨a, rfl⟩ := nat_of (x := x1) (by omega)
    obtain ⟨d, rfl⟩ := nat_of (x := x2) (by omega)
    have hd : 1 ≤ d := by omega
    have had : a + d ≤ 64 := by omega
    by_cases hl : 2 ^ d ≤ v
    · obtain ⟨e1, e2, e3⟩ := wWith_long (n := n) hd had hv hl
      simp [e2, e3]
    · have hl : v < 2 ^ d := by omega
      obtain ⟨e1, e2, e3⟩ := wWith_eq hn hd had hl
      have hx := withN_lt hn hl had
      simp only [e1, e2, e3]
      by_cases hb : 0 ≤ x3 ∧ x3 ≤ 63 ∧ 1 ≤ x4 ∧ x4 ≤ 64
      · have w1 := wrap_i64 (x := (a : Int) + d) (by omega) (by omega)
        have w2 := wrap_i64 (x := x3 + x4) (by omega) (by omega)
        rw [w1, w2]
        obtain ⟨b, rfl⟩ := nat_of (x := x3) (by omega)
        obtain ⟨m, rfl⟩ := nat_of (x := x4) (by omega)
        have n1 : ¬ (b : Int) < 0 := by omega
        have n2 : ¬ (b : Int) > 63 := by omega
        have n3 : ¬ (m : Int) < 1 := by omega
        have n4 : ¬ (m : Int) > 64 := by omega
        have key : (b : Int) + m ≤ a ∨ (a : Int) + d ≤ b → wField (withN n a d v : Int) b m = wField (n : Int) b m := by
          intro hap
          by_cases hbm : b + m ≤ 64
          · rw [(wField_eq hx (by omega) hbm).1, (wField_eq hn (by omega) hbm).1]
            congr 1
            apply Nat.eq_of_testBit_eq
            intro i
            rw [fieldN_bit, fieldN_bit, withN_bit hn hl had]
            by_cases hi : i < m
            · rw [if_neg (by omega)]
            · simp [hi]
          · have hno : wIs (b : Int) (m : Int) = false := by
              cases h : wIs (b : Int) (m : Int) with
              | false => rfl
              | true => have := (wIs_iff _ _).1 h; omega
            rw [(wField_no hno).1, (wField_no hno).1]
        have okf : ∀ y : Nat, y < 18446744073709551616 → wFieldOk (y : Int) b m = true := by
          intro y hy
          by_cases hbm : b + m ≤ 64
          · exact (wField_eq hy (by omega) hbm).2
          · have hno : wIs (b : Int) (m : Int) = false := by
              cases h : wIs (b : Int) (m : Int) with
              | false => rfl
              | true => have := (wIs_iff _ _).1 h; omega
            exact (wField_no hno).2
        simp only [n1, n2, n3, n4, decide_false, okf n hn, okf _ hx]
        by_cases p1 : (b : Int) < a + d
        · by_cases p2 : (a : Int) < b + m
          · simp [p1, p2]
          · simp [p1, p2, key (.inl (by omega))]
        · simp [p1, key (.inr (by omega))]
      · by_cases n1 : x3 < 0
        · simp [n1]
        · by_cases n2 : x3 > 63
          · simp [n1, n2]
          · by_cases n3 : x4 < 1
            · simp [n1, n2, n3]
            · have n4 : x4 > 64 := by omega
              simp [n1, n2, n3, n4]
end Go.Proofs.Ytgohhgkonbenbaa.G

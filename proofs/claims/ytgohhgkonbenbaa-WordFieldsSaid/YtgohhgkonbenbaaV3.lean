/-
  The plain law of WordFields: the reference's loops, bit by bit.
-/
import Derived.Test.YtgohhgkonbenbaaG3
import Derived.Test.YtgohhgkonbenbaaV4
namespace Go.Proofs.Ytgohhgkonbenbaa.G
open Go Go.AM

theorem bit25 {n i : Nat} (hn : n < 18446744073709551616) (hi : i ≤ 64) : r25_0 (n : Int) (i : Int) = ((n.testBit i).toNat : Int) := by
  have h0 : (0 : Int) ≤ i := by omega
  have h1 : n / 2 ^ i < 18446744073709551616 := Nat.lt_of_le_of_lt (Nat.div_le_self _ _) hn
  unfold r25_0
  simp only [h0, decide_true, cond_true, shift_u64 hi, fdiv_pow]
  have e : bits BinOp.and IntKind.u64 ((n / 2 ^ i : Nat) : Int) 1 = (((n / 2 ^ i) &&& 1 : Nat) : Int) := u64_and_nat _ 1 h1 (by decide)
  rw [e, Nat.and_one_is_mod, Nat.toNat_testBit]

theorem wrapN {i : Nat} (h : i ≤ 200) : IntKind.i64.wrap ((i : Int) + 1) = ((i + 1 : Nat) : Int) := by
  rw [wrap_i64 (by omega) (by omega)]; rfl

theorem wrapA {a i : Nat} (h : a + i ≤ 200) : IntKind.i64.wrap ((a : Int) + i) = ((a + i : Nat) : Int) := by
  rw [wrap_i64 (by omega) (by omega)]; rfl

theorem bool_mul_lt {b : Bool} {i : Nat} (hi : i < 64) : b.toNat * 2 ^ i < 18446744073709551616 := by
  have h1 : (2 : Nat) ^ i < 2 ^ 64 := Nat.pow_lt_pow_right (by decide) hi
  have h2 : (2 : Nat) ^ 64 = 18446744073709551616 := by decide
  cases b <;> simp <;> omega

theorem bool_mul_bit (b : Bool) (i j : Nat) : (b.toNat * 2 ^ i).testBit j = (decide (i = j) && b) := by
  cases b
  · simp
  · simp [Nat.testBit_two_pow]

theorem fieldL_bits {n a : Nat} (hn : n < 18446744073709551616) : ∀ (m o i : Nat), o < 18446744073709551616 → a + i + m ≤ 64 →
    ∃ r : Nat, fieldL m (o : Int) (i : Int) (n : Int) (a : Int) = r ∧ r < 18446744073709551616 ∧ ∀ j, r.testBit j = (o.testBit j || (decide (i ≤ j ∧ j < i + m) && n.testBit (a + j)))
  | 0, o, i, ho, _ => ⟨o, rfl, ho, fun j => by
    have : ¬ (i ≤ j ∧ j < i + 0) := by omega
    rw [decide_eq_false this]; simp⟩
  | m + 1, o, i, ho, h => by
    rw [fieldL, wrapA (by omega), bit25 hn (by omega), shift_u64 (by omega), wrapN (by omega)]
    have hb := bool_mul_lt (b := n.testBit (a + i)) (i := i) (by omega)
    have e : ((n.testBit (a + i)).toNat : Int) * 2 ^ i = (((n.testBit (a + i)).toNat * 2 ^ i : Nat) : Int) := by simp
    rw [e, wrap_u64_nat hb, bits_or_u64_nat _ _ ho hb]
    obtain ⟨r, h1, h2, h3⟩ := fieldL_bits (a := a) hn m (o ||| ((n.testBit (a + i)).toNat * 2 ^ i)) (i + 1) (Nat.or_lt_two_pow (n := 64) ho hb) (by omega)
    refine ⟨r, h1, h2, fun j => ?_⟩
    rw [h3, Nat.testBit_or, bool_mul_bit]
    by_cases hj : i = j
    · subst hj
      have n1 : ¬ (i + 1 ≤ i ∧ i < i + 1 + m) := by omega
      have n2 : i ≤ i ∧ i < i + (m + 1) := by omega
      simp [n1, n2]
    · have e2 : (i + 1 ≤ j ∧ j < i + 1 + m) = (i ≤ j ∧ j < i + (m + 1)) := by apply propext; omega
      simp [hj, e2]

theorem withL_bits {v a : Nat} (hv : v < 18446744073709551616) : ∀ (m w i : Nat), w < 18446744073709551616 → a + i + m ≤ 64 →
    ∃ r : Nat, withL m (w : Int) (i : Int) (a : Int) (v : Int) = r ∧ r < 18446744073709551616 ∧ ∀ j, r.testBit j = if a + i ≤ j ∧ j < a + i + m then v.testBit (j - a) else w.testBit j
  | 0, w, i, hw, _ => ⟨w, rfl, hw, fun j => by
    have : ¬ (a + i ≤ j ∧ j < a + i + 0) := by omega
    rw [if_neg this]⟩
  | m + 1, w, i, hw, h => by
    rw [withL, wrapA (by omega), bit25 hv (by omega), bit25 hw (by omega), shift_u64 (by omega), wrapN (by omega)]
    have hp : (2 : Nat) ^ (a + i) < 18446744073709551616 := by
      have h1 : (2 : Nat) ^ (a + i) < 2 ^ 64 := Nat.pow_lt_pow_right (by decide) (by omega)
      have h2 : (2 : Nat) ^ 64 = 18446744073709551616 := by decide
      omega
    have e : (1 : Int) * 2 ^ (a + i) = ((2 ^ (a + i) : Nat) : Int) := by simp
    rw [e, wrap_u64_nat hp, bits_xor_u64_nat _ _ hw hp]
    have hne : (((v.testBit i).toNat : Int) != ((w.testBit (a + i)).toNat : Int)) = (v.testBit i != w.testBit (a + i)) := by
      cases v.testBit i <;> cases w.testBit (a + i) <;> rfl
    rw [hne]
    have key : ∃ w' : Nat, (bif v.testBit i != w.testBit (a + i) then ((w ^^^ 2 ^ (a + i) : Nat) : Int) else (w : Int)) = (w' : Int) ∧ w' < 18446744073709551616 ∧ ∀ j, w'.testBit j = if j = a + i then v.testBit i else w.testBit j := by
      cases hb : (v.testBit i != w.testBit (a + i)) with
      | false =>
        refine ⟨w, rfl, hw, fun j => ?_⟩
        by_cases hj : j = a + i
        · subst hj
          simp at hb
          simp [hb]
        · simp [hj]
      | true =>
        refine ⟨w ^^^ 2 ^ (a + i), rfl, Nat.xor_lt_two_pow (n := 64) hw hp, fun j => ?_⟩
        rw [Nat.testBit_xor, Nat.testBit_two_pow]
        by_cases hj : j = a + i
        · subst hj
          revert hb
          cases v.testBit i <;> cases w.testBit (a + i) <;> simp
        · have : ¬ a + i = j := by omega
          simp [hj, this]
    obtain ⟨w', k1, k2, k3⟩ := key
    rw [k1]
    obtain ⟨r, h1, h2, h3⟩ := withL_bits (a := a) hv m w' (i + 1) k2 (by omega)
    refine ⟨r, h1, h2, fun j => ?_⟩
    rw [h3, k3]
    by_cases hj : j = a + i
    · subst hj
      rw [if_neg (by omega), if_pos rfl, if_pos (by omega)]
      congr 1
      omega
    · by_cases h4 : a + (i + 1) ≤ j ∧ j < a + (i + 1) + m
      · rw [if_pos h4, if_pos (by omega)]
      · rw [if_neg h4, if_neg hj, if_neg (by omega)]

theorem anyL_bits {v : Nat} (hv : v < 18446744073709551616) : ∀ (m i : Nat), i + m ≤ 64 → (anyL m (i : Int) (v : Int) = false ↔ ∀ j, i ≤ j → j < i + m → v.testBit j = false)
  | 0, i, _ => by simp [anyL]; intro j; omega
  | m + 1, i, h => by
    rw [anyL, bit25 hv (by omega), wrapN (by omega), Bool.or_eq_false_iff, anyL_bits hv m (i + 1) (by omega)]
    have e : (((v.testBit i).toNat : Int) == 1) = v.testBit i := by cases v.testBit i <;> rfl
    rw [e]
    constructor
    · rintro ⟨h1, h2⟩ j h3 h4
      by_cases hj : j = i
      · subst hj; exact h1
      · exact h2 j (by omega) (by omega)
    · intro h1
      exact ⟨h1 i (Nat.le_refl _) (by omega), fun j h2 h3 => h1 j (by omega) (by omega)⟩

theorem is24 (a d : Int) (ha : -9223372036854775808 ≤ a) (ha' : a ≤ 9223372036854775807) : r24_0 a d = wIs a d := by
  have h : r24_0 a d = true ↔ wIs a d = true := by
    rw [wIs_iff]
    unfold r24_0
    by_cases h1 : 0 ≤ a
    · by_cases h2 : a ≤ 63
      · by_cases h3 : 1 ≤ d
        · by_cases h4 : d ≤ 64
          · have e := wrap_i64 (x := a + d) (by omega) (by omega)
            simp [h1, h2, h3, h4, e]
          · simp [h4]; omega
        · simp [h3]
      · simp [h2]; omega
    · simp [h1]
  cases h1 : r24_0 a d <;> cases h2 : wIs a d <;> simp_all

theorem vc3 (x0 : Int) (x1 : Int) (x2 : Int) (x3 : Int) (l0 : IntKind.min .u64 ≤ x0) (u0 : x0 ≤ IntKind.max .u64) (l1 : IntKind.min .i64 ≤ x1) (u1 : x1 ≤ IntKind.max .i64) (_l2 : IntKind.min .i64 ≤ x2) (_u2 : x2 ≤ IntKind.max .i64) (l3 : IntKind.min .u64 ≤ x3) (u3 : x3 ≤ IntKind.max .u64) :
    (T3 x0 x1 x2 x3).sat fun r => r = tvb true := by
  have l0 : 0 ≤ x0 := l0
  have u0 : x0 ≤ 18446744073709551615 := u0
  have l3 : 0 ≤ x3 := l3
  have u3 : x3 ≤ 18446744073709551615 := u3
  obtain ⟨n, rfl⟩ := nat_of l0
  obtain ⟨v, rfl⟩ := nat_of l3
  have hn : n < 18446744073709551616 := by omega
  have hv : v < 18446744073709551616 := by omega
  have hq := is24 x1 x2 l1 u1
  simp only [T3, Tr.sat_br, Tr.sat_ok, Tr.sat_no, q14, q14o, q12, q12e, q12o, tvb, r15_0, ok15, r13_0, r13_1, ok13, hq]
  cases hw : wIs x1 x2 with
  | false =>
    obtain ⟨e1, e2, e3⟩ := wWith_no (x := (n : Int)) (v := (v : Int)) hw
    obtain ⟨f1, f2⟩ := wField_no (x := (n : Int)) hw
    simp [e1, e2, e3, f1, f2]
  | true =>
    have hw' := (wIs_iff _ _).1 hw
    obtain ⟨a, rfl⟩ := nat_of (x := x1) (by omega)
    obtain ⟨d, rfl⟩ := nat_of (x := x2) (by omega)
    have hd : 1 ≤ d := by omega
    have had : a + d ≤ 64 := by omega
    obtain ⟨f1, f2⟩ := wField_eq hn hd had
    have p1 : pre15_5 0 0 (n : Int) a d = true := by simp [pre15_5]; omega
    have p2 : pre13_4 (d : Int) v = true := by simp [pre13_4]; omega
    have p3 : pre13_9 (n : Int) 0 a d v = true := by simp [pre13_9]; omega
    have k1 : g15_5_0_7 0 0 (n : Int) a d = (fieldN n a d : Int) := by
      obtain ⟨r, h1, _, h3⟩ := fieldL_bits (a := a) hn d 0 0 (by omega) (by omega)
      have h1' : g15_5_0_7 0 0 (n : Int) a d = (r : Int) := by
        rw [g15_5_0_7, show ((d : Int) - 0).toNat = d by omega]
        exact h1
      rw [h1']
      congr 1
      apply Nat.eq_of_testBit_eq
      intro j
      rw [h3, fieldN_bit]
      by_cases hj : j < d <;> simp [hj]
    have k2 : sel13_4_0 (d : Int) v = decide (2 ^ d ≤ v) := by
      have h1 := anyL_bits hv (64 - d) d (by omega)
      rw [sel13_4_0, show ((64 : Int) - d).toNat = 64 - d by omega]
      by_cases hl : 2 ^ d ≤ v
      · simp only [hl, decide_true]
        cases ha : anyL (64 - d) (d : Int) (v : Int) with
        | true => rfl
        | false =>
          have h2 := h1.1 ha
          have : v < 2 ^ d := lt_of_bits fun i hi => by
            by_cases h64 : i < 64
            · exact h2 i hi (by omega)
            · exact high_false hv (by omega)
          omega
      · simp only [hl, decide_false]
        exact h1.2 fun j hj _ => Nat.testBit_lt_two_pow (Nat.lt_of_lt_of_le (by omega) (Nat.pow_le_pow_right (by decide) hj))
    by_cases hl : 2 ^ d ≤ v
    · obtain ⟨e1, e2, e3⟩ := wWith_long (n := n) hd had hv hl
      simp [e1, e2, e3, f1, f2, p1, p2, k1, k2, hl, g13_4_0_8, g13_4_0_9]
    · have hl' : v < 2 ^ d := by omega
      obtain ⟨e1, e2, e3⟩ := wWith_eq hn hd had hl'
      have k3 : g13_9_0_0 (n : Int) 0 a d v = (withN n a d v : Int) := by
        obtain ⟨r, h1, _, h3⟩ := withL_bits (a := a) hv d n 0 hn (by omega)
        have h1' : g13_9_0_0 (n : Int) 0 a d v = (r : Int) := by
          rw [g13_9_0_0, show ((d : Int) - 0).toNat = d by omega]
          exact h1
        rw [h1']
        congr 1
        apply Nat.eq_of_testBit_eq
        intro j
        rw [h3, withN_bit hn hl' had]
        simp
      simp [e1, e2, e3, f1, f2, p1, p2, p3, k1, k2, k3, hl]
end Go.Proofs.Ytgohhgkonbenbaa.G

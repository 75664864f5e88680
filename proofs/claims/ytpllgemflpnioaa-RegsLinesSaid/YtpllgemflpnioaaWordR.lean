/-
  The reference's fields of a word, in plain numbers.
-/
import Derived.Test.YtpllgemflpnioaaG9
namespace Go.Proofs.Ytpllgemflpnioaa.G
open Go Go.AM Go.Proofs

theorem rBit_eq {n i : Nat} (hn : n < 18446744073709551616) (hi : i ≤ 64) : r_rBit_0 (n : Int) (i : Int) = ((n.testBit i).toNat : Int) := by
  have h0 : (0 : Int) ≤ i := by omega
  have h1 : n / 2 ^ i < 18446744073709551616 := Nat.lt_of_le_of_lt (Nat.div_le_self _ _) hn
  unfold r_rBit_0
  simp only [h0, decide_true, cond_true, shift_u64 hi, fdiv_pow]
  have e : bits BinOp.and IntKind.u64 ((n / 2 ^ i : Nat) : Int) 1 = (((n / 2 ^ i) &&& 1 : Nat) : Int) := u64_and_nat _ 1 h1 (by decide)
  rw [e, Nat.and_one_is_mod, Nat.toNat_testBit]

theorem wrapN {i : Nat} (h : i ≤ 200) : IntKind.i64.wrap ((i : Int) + 1) = ((i + 1 : Nat) : Int) := by
  rw [wrap_i64 (by omega) (by omega)]; rfl

theorem wrapA {a i : Nat} (h : a + i ≤ 200) : IntKind.i64.wrap ((a : Int) + i) = ((a + i : Nat) : Int) := by
  rw [wrap_i64 (by omega) (by omega)]; rfl

theorem bool_mul_lt {b : Bool} {i : Nat} (hi : i < 64) : b.toNat * 2 ^ i < 18446744073709551616 := by
  have h1 : (2 : Nat) ^ i < 2 ^ 64 := Nat.pow_lt_pow_right (by decide) hi
  have h2 : (2 : Nat) ^ 64 = 18446744073709551616 := by decide
  cases b <;> simp <;> omega

theorem bool_mul_bit (b : Bool) (i j : Nat) : (b.toNat * 2 ^ i).testBit j = (decide (i = j) && b) := by
  cases b
  · simp
  · simp [Nat.testBit_two_pow]

theorem fieldL_bits {n a : Nat} (hn : n < 18446744073709551616) : ∀ (m o i : Nat), o < 18446744073709551616 → a + i + m ≤ 64 →
    ∃ r : Nat, fieldL m (o : Int) (i : Int) (n : Int) (a : Int) = r ∧ r < 18446744073709551616 ∧ ∀ j, r.testBit j = (o.testBit j || (decide (i ≤ j ∧ j < i + m) && n.testBit (a + j)))
  | 0, o, i, ho, _ => ⟨o, rfl, ho, fun j => by
    have : ¬ (i ≤ j ∧ j < i + 0) := by omega
    rw [decide_eq_false this]; simp⟩
  | m + 1, o, i, ho, h => by
    rw [fieldL, wrapA (by omega), rBit_eq hn (by omega), shift_u64 (by omega), wrapN (by omega)]
    have hb := bool_mul_lt (b := n.testBit (a + i)) (i := i) (by omega)
    have e : ((n.testBit (a + i)).toNat : Int) * 2 ^ i = (((n.testBit (a + i)).toNat * 2 ^ i : Nat) : Int) := by simp
    rw [e, wrap_u64_nat hb, bits_or_u64_nat _ _ ho hb]
    obtain ⟨r, h1, h2, h3⟩ := fieldL_bits (a := a) hn m (o ||| ((n.testBit (a + i)).toNat * 2 ^ i)) (i + 1) (Nat.or_lt_two_pow (n := 64) ho hb) (by omega)
    refine ⟨r, h1, h2, fun j => ?_⟩
    rw [h3, Nat.testBit_or, bool_mul_bit]
    by_cases hj : i = j
    · subst hj
      have n1 : ¬ (i + 1 ≤ i ∧ i < i + 1 + m) := by omega
      have n2 : i ≤ i ∧ i < i + (m + 1) := by omega
      simp [n1, n2]
    · have e2 : (i + 1 ≤ j ∧ j < i + 1 + m) = (i ≤ j ∧ j < i + (m + 1)) := by apply propext; omega
      simp [hj, e2]

theorem withL_bits {v a : Nat} (hv : v < 18446744073709551616) : ∀ (m w i : Nat), w < 18446744073709551616 → a + i + m ≤ 64 →
    ∃ r : Nat, withL m (w : Int) (i : Int) (a : Int) (v : Int) = r ∧ r < 18446744073709551616 ∧ ∀ j, r.testBit j = if a + i ≤ j ∧ j < a + i + m then v.testBit (j - a) else w.testBit j
  | 0, w, i, hw, _ => ⟨w, rfl, hw, fun j => by
    have : ¬ (a + i ≤ j ∧ j < a + i + 0) := by omega
    rw [if_neg this]⟩
  | m + 1, w, i, hw, h => by
    rw [withL, wrapA (by omega), rBit_eq hv (by omega), rBit_eq hw (by omega), shift_u64 (by omega), wrapN (by omega)]
    have hp : (2 : Nat) ^ (a + i) < 18446744073709551616 := by
      have h1 : (2 : Nat) ^ (a + i) < 2 ^ 64 := Nat.pow_lt_pow_right (by decide) (by omega)
      have h2 : (2 : Nat) ^ 64 = 18446744073709551616 := by decide
      omega
    have e : (1 : Int) * 2 ^ (a + i) = ((2 ^ (a + i) : Nat) : Int) := by simp
    rw [e, wrap_u64_nat hp, bits_xor_u64_nat _ _ hw hp]
    have hne : (((v.testBit i).toNat : Int) != ((w.testBit (a + i)).toNat : Int)) = (v.testBit i != w.testBit (a + i)) := by
      cases v.testBit i <;> cases w.testBit (a + i) <;> rfl
    rw [hne]
    have key : ∃ w' : Nat, (bif v.testBit i != w.testBit (a + i) then ((w ^^^ 2 ^ (a + i) : Nat) : Int) else (w : Int)) = (w' : Int) ∧ w' < 18446744073709551616 ∧ ∀ j, w'.testBit j = if j = a + i then v.testBit i else w.testBit j := by
      cases hb : (v.testBit i != w.testBit (a + i)) with
      | false =>
        refine ⟨w, rfl, hw, fun j => ?_⟩
        by_cases hj : j = a + i
        · subst hj
          simp at hb
          simp [hb]
        · simp [hj]
      | true =>
        refine ⟨w ^^^ 2 ^ (a + i), rfl, Nat.xor_lt_two_pow (n := 64) hw hp, fun j => ?_⟩
        rw [Nat.testBit_xor, Nat.testBit_two_pow]
        by_cases hj : j = a + i
        · subst hj
          revert hb
          cases v.testBit i <;> cases w.testBit (a + i) <;> simp
        · have : ¬ a + i = j := by omega
          simp [hj, this]
    obtain ⟨w', k1, k2, k3⟩ := key
    rw [k1]
    obtain ⟨r, h1, h2, h3⟩ := withL_bits (a := a) hv m w' (i + 1) k2 (by omega)
    refine ⟨r, h1, h2, fun j => ?_⟩
    rw [h3, k3]
    by_cases hj : j = a + i
    · subst hj
      rw [if_neg (by omega), if_pos rfl, if_pos (by omega)]
      congr 1
      omega
    · by_cases h4 : a + (i + 1) ≤ j ∧ j < a + (i + 1) + m
      · rw [if_pos h4, if_pos (by omega)]
      · rw [if_neg h4, if_neg hj, if_neg (by omega)]

theorem anyL_bits {v : Nat} (hv : v < 18446744073709551616) : ∀ (m i : Nat), i + m ≤ 64 → (anyL m (v : Int) (i : Int) = false ↔ ∀ j, i ≤ j → j < i + m → v.testBit j = false)
  | 0, i, _ => by simp [anyL]; intro j; omega
  | m + 1, i, h => by
    rw [anyL, rBit_eq hv (by omega), wrapN (by omega), Bool.or_eq_false_iff, anyL_bits hv m (i + 1) (by omega)]
    have e : (((v.testBit i).toNat : Int) == 1) = v.testBit i := by cases v.testBit i <;> rfl
    rw [e]
    constructor
    · rintro ⟨h1, h2⟩ j h3 h4
      by_cases hj : j = i
      · subst hj; exact h1
      · exact h2 j (by omega) (by omega)
    · intro h1
      exact ⟨h1 i (Nat.le_refl _) (by omega), fun j h2 h3 => h1 j (by omega) (by omega)⟩

theorem rIs_yes {a d : Nat} (hd : 1 ≤ d) (h : a + d ≤ 64) : r_rIs_0 (a : Int) (d : Int) = true := by
  unfold r_rIs_0
  rw [wrapA (by omega), decide_eq_true (by omega), decide_eq_true (by omega), decide_eq_true (by omega), decide_eq_true (by omega), decide_eq_true (by omega)]
  rfl

theorem rField_eq {n a d : Nat} (hn : n < 18446744073709551616) (hd : 1 ≤ d) (h : a + d ≤ 64) : ok_rField (n : Int) (a : Int) (d : Int) = true ∧ r_rField_0 (n : Int) (a : Int) (d : Int) = (fieldN n a d : Nat) := by
  have c : decide ((0 : Int) ≤ (0 : Int) ∧ (0 : Int) ≤ (64 : Int) ∧ (0 : Int) ≤ (a : Int) ∧ (a : Int) ≤ (64 : Int) ∧ (d : Int) ≤ (64 : Int)) = true := decide_eq_true (by omega)
  refine ⟨by unfold ok_rField; rw [rIs_yes hd h, c]; rfl, ?_⟩
  unfold r_rField_0
  rw [rIs_yes hd h, c, Bool.not_true, cond_false, cond_true, show ((d : Int) - 0).toNat = d by omega]
  obtain ⟨r, h1, _, h3⟩ := fieldL_bits (a := a) hn d 0 0 (by omega) (by omega)
  refine h1.trans ?_
  congr 1
  apply Nat.eq_of_testBit_eq
  intro j
  rw [h3, fieldN_bit]
  by_cases hj : j < d <;> simp [hj]

theorem rWith_eq {n a d v : Nat} (hn : n < 18446744073709551616) (hd : 1 ≤ d) (h : a + d ≤ 64) (hv : v < 2 ^ d) :
    ok_rWith (n : Int) (a : Int) (d : Int) (v : Int) = true ∧ r_rWith_0 (n : Int) (a : Int) (d : Int) (v : Int) = (withN n a d v : Nat) ∧ r_rWith_1 (n : Int) (a : Int) (d : Int) (v : Int) = 0 := by
  have hv64 : v < 18446744073709551616 := Nat.lt_of_lt_of_le hv (by
    have : (2 : Nat) ^ d ≤ 2 ^ 64 := Nat.pow_le_pow_right (by decide) (by omega)
    simpa using this)
  have c1 : decide ((0 : Int) ≤ (d : Int) ∧ (d : Int) ≤ (64 : Int)) = true := decide_eq_true (by omega)
  have c2 : decide ((0 : Int) ≤ (0 : Int) ∧ (0 : Int) ≤ (64 : Int) ∧ (0 : Int) ≤ (a : Int) ∧ (a : Int) ≤ (64 : Int) ∧ (d : Int) ≤ (64 : Int)) = true := decide_eq_true (by omega)
  have ha : anyL (Int.toNat ((64 : Int) - (d : Int))) (v : Int) (d : Int) = false := by
    rw [show Int.toNat ((64 : Int) - (d : Int)) = 64 - d by omega]
    exact (anyL_bits hv64 (64 - d) d (by omega)).2 fun j hj _ => Nat.testBit_lt_two_pow (Nat.lt_of_lt_of_le hv (Nat.pow_le_pow_right (by decide) hj))
  refine ⟨by unfold ok_rWith; rw [rIs_yes hd h, c1, ha, c2]; rfl, ?_, by unfold r_rWith_1; rw [rIs_yes hd h, c1, ha, c2]; rfl⟩
  unfold r_rWith_0
  rw [rIs_yes hd h, c1, ha, c2, Bool.not_true, cond_false, cond_true, cond_false, cond_true, show ((d : Int) - 0).toNat = d by omega]
  obtain ⟨r, h1, _, h3⟩ := withL_bits (a := a) hv64 d n 0 hn (by omega)
  refine h1.trans ?_
  congr 1
  apply Nat.eq_of_testBit_eq
  intro j
  rw [h3, withN_bit hn hv h]
  simp

/-- Into a word that has nothing there. -/
theorem withN_put {n a d v : Nat} (hn : n < 2 ^ a) (h : a + d ≤ 64) (hv : v < 2 ^ d) : withN n a d v = n + v * 2 ^ a := by
  have hn64 : n < 18446744073709551616 := Nat.lt_of_lt_of_le hn (by
    have : (2 : Nat) ^ a ≤ 2 ^ 64 := Nat.pow_le_pow_right (by decide) (by omega)
    simpa using this)
  rw [← or_add hn]
  apply Nat.eq_of_testBit_eq
  intro j
  rw [withN_bit hn64 hv h, Nat.testBit_or, mul_pow_bit]
  by_cases h1 : a ≤ j
  · have h2 : n.testBit j = false := Nat.testBit_lt_two_pow (Nat.lt_of_lt_of_le hn (Nat.pow_le_pow_right (by decide) h1))
    by_cases h3 : j < a + d
    · simp [h1, h2, h3]
    · have h4 : v.testBit (j - a) = false := Nat.testBit_lt_two_pow (Nat.lt_of_lt_of_le hv (Nat.pow_le_pow_right (by decide) (by omega)))
      simp [h1, h2, h3, h4]
  · simp [h1]

theorem rWith_put {n a d v : Nat} (hn : n < 2 ^ a) (hd : 1 ≤ d) (h : a + d ≤ 64) (hv : v < 2 ^ d) :
    ok_rWith (n : Int) (a : Int) (d : Int) (v : Int) = true ∧ r_rWith_0 (n : Int) (a : Int) (d : Int) (v : Int) = ((n + v * 2 ^ a : Nat) : Int) ∧ r_rWith_1 (n : Int) (a : Int) (d : Int) (v : Int) = 0 := by
  have hn64 : n < 18446744073709551616 := Nat.lt_of_lt_of_le hn (by
    have : (2 : Nat) ^ a ≤ 2 ^ 64 := Nat.pow_le_pow_right (by decide) (by omega)
    simpa using this)
  rw [← withN_put hn h hv]
  exact rWith_eq hn64 hd h hv
end Go.Proofs.Ytpllgemflpnioaa.G

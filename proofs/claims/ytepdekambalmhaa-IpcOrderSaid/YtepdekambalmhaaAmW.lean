/-
  Words: what 'word.Field' and 'word.With' compute, bit by bit.
-/
import Derived.Test.YtepdekambalmhaaAmM
namespace Go.AM
open Go

/-! ### what the code computes (as the explorer prints it) -/

def wIs (x0 : Int) (x1 : Int) : Bool :=
  bif decide (x0 ≥ 0) then (bif decide (x0 < 64) then (bif decide (x1 ≥ 1) then decide (x1 ≤ IntKind.i64.wrap (64 - x0))
  else false)
  else false)
  else false
def wMask (x0 : Int) : Int :=
  bif decide (0 ≤ IntKind.i64.wrap (64 - x0)) then Int.fdiv 18446744073709551615 (2 ^ shiftN IntKind.u64 (IntKind.i64.wrap (64 - x0)))
  else 0
def wMaskOk (x0 : Int) : Bool :=
  bif decide (0 ≤ IntKind.i64.wrap (64 - x0)) then true
  else false
def wField (x0 : Int) (x1 : Int) (x2 : Int) : Int :=
  bif !wIs x1 x2 then 0
  else bif decide (0 ≤ x1) then (bif wMaskOk x2 then bits BinOp.and IntKind.u64 (x0.fdiv (2 ^ shiftN IntKind.u64 x1)) (wMask x2)
  else 0)
  else 0
def wFieldOk (_x0 : Int) (x1 : Int) (x2 : Int) : Bool :=
  bif !wIs x1 x2 then true
  else bif decide (0 ≤ x1) then (bif wMaskOk x2 then true
  else false)
  else false
def wWith (x0 : Int) (x1 : Int) (x2 : Int) (x3 : Int) : Int :=
  bif !wIs x1 x2 then 0
  else bif wMaskOk x2 then (bif bits BinOp.andNot IntKind.u64 x3 (wMask x2) != 0 then 0
  else bif wMaskOk x2 then (bif decide (0 ≤ x1) then (bif decide (0 ≤ x1) then bits BinOp.or IntKind.u64 (bits BinOp.andNot IntKind.u64 x0 (IntKind.u64.wrap (wMask x2 * 2 ^ shiftN IntKind.u64 x1)))   (IntKind.u64.wrap (x3 * 2 ^ shiftN IntKind.u64 x1))
  else 0)
  else 0)
  else 0)
  else 0
def wWithE (_x0 : Int) (x1 : Int) (x2 : Int) (x3 : Int) : Int :=
  bif !wIs x1 x2 then 1
  else bif wMaskOk x2 then (bif bits BinOp.andNot IntKind.u64 x3 (wMask x2) != 0 then 2
  else bif wMaskOk x2 then (bif decide (0 ≤ x1) then (bif decide (0 ≤ x1) then 0
  else 0)
  else 0)
  else 0)
  else 0
def wWithOk (_x0 : Int) (x1 : Int) (x2 : Int) (x3 : Int) : Bool :=
  bif !wIs x1 x2 then true
  else bif wMaskOk x2 then (bif bits BinOp.andNot IntKind.u64 x3 (wMask x2) != 0 then true
  else bif wMaskOk x2 then (bif decide (0 ≤ x1) then (bif decide (0 ≤ x1) then true
  else false)
  else false)
  else false)
  else false

/-! ### in plain numbers -/

def fieldN (n a d : Nat) : Nat := (n / 2 ^ a) &&& (2 ^ d - 1)
def withN (n a d v : Nat) : Nat := (n &&& (18446744073709551615 - (2 ^ d - 1) * 2 ^ a)) ||| (v * 2 ^ a)

theorem fieldN_bit (n a d i : Nat) : (fieldN n a d).testBit i = (n.testBit (a + i) && decide (i < d)) := by
  unfold fieldN
  rw [Nat.testBit_and, Nat.testBit_two_pow_sub_one, ← Nat.shiftRight_eq_div_pow, Nat.testBit_shiftRight]

theorem fieldN_lt (n a d : Nat) : fieldN n a d < 2 ^ d := by
  unfold fieldN
  rw [Nat.and_two_pow_sub_one_eq_mod]
  exact Nat.mod_lt _ (Nat.two_pow_pos d)

theorem mul_pow_bit (v a i : Nat) : (v * 2 ^ a).testBit i = (decide (a ≤ i) && v.testBit (i - a)) := by
  rw [← Nat.shiftLeft_eq, Nat.testBit_shiftLeft]

theorem mask_lt {a d : Nat} (h : a + d ≤ 64) : (2 ^ d - 1) * 2 ^ a < 18446744073709551616 := by
  have h1 : (2 ^ d - 1) * 2 ^ a < 2 ^ d * 2 ^ a := Nat.mul_lt_mul_of_pos_right (Nat.sub_lt (Nat.two_pow_pos d) (by decide)) (Nat.two_pow_pos a)
  have h2 : 2 ^ d * 2 ^ a = 2 ^ (d + a) := (Nat.pow_add ..).symm
  have h3 : (2 : Nat) ^ (d + a) ≤ 2 ^ 64 := Nat.pow_le_pow_right (by decide) (by omega)
  have h4 : (2 : Nat) ^ 64 = 18446744073709551616 := by decide
  omega

theorem val_shift_lt {v a d : Nat} (hv : v < 2 ^ d) (h : a + d ≤ 64) : v * 2 ^ a < 18446744073709551616 :=
  Nat.lt_of_le_of_lt (Nat.mul_le_mul_right _ (by omega)) (mask_lt h)

theorem withN_bit {n a d v : Nat} (hn : n < 18446744073709551616) (hv : v < 2 ^ d) (h : a + d ≤ 64) (i : Nat) :
    (withN n a d v).testBit i = if a ≤ i ∧ i < a + d then v.testBit (i - a) else n.testBit i := by
  unfold withN
  have hm := mask_lt h
  have e : 18446744073709551615 - (2 ^ d - 1) * 2 ^ a = 2 ^ 64 - ((2 ^ d - 1) * 2 ^ a + 1) := by
    have : (2 : Nat) ^ 64 = 18446744073709551616 := by decide
    omega
  rw [Nat.testBit_or, Nat.testBit_and, mul_pow_bit, e, Nat.testBit_two_pow_sub_succ (by simpa using hm), mul_pow_bit, Nat.testBit_two_pow_sub_one]
  by_cases h1 : a ≤ i
  · by_cases h2 : i < a + d
    · have h3 : i - a < d := by omega
      simp [h1, h2, h3]
    · have h3 : ¬ i - a < d := by omega
      have h4 : v.testBit (i - a) = false := Nat.testBit_lt_two_pow (Nat.lt_of_lt_of_le hv (Nat.pow_le_pow_right (by decide) (by omega)))
      simp only [h1, h2, h3, h4]
      by_cases h5 : i < 64
      · simp [h5]
      · have : n.testBit i = false := Nat.testBit_lt_two_pow (Nat.lt_of_lt_of_le hn (by
          have : (2 : Nat) ^ 64 ≤ 2 ^ i := Nat.pow_le_pow_right (by decide) (by omega)
          have e : (2 : Nat) ^ 64 = 18446744073709551616 := by decide
          omega))
        simp [this]
  · simp only [h1]
    by_cases h5 : i < 64
    · simp [h5]
    · have : n.testBit i = false := Nat.testBit_lt_two_pow (Nat.lt_of_lt_of_le hn (by
        have : (2 : Nat) ^ 64 ≤ 2 ^ i := Nat.pow_le_pow_right (by decide) (by omega)
        have e : (2 : Nat) ^ 64 = 18446744073709551616 := by decide
        omega))
      simp [this]

theorem lt_of_bits {n d : Nat} (h : ∀ i, d ≤ i → n.testBit i = false) : n < 2 ^ d := Nat.lt_pow_two_of_testBit n h

theorem high_false {n i : Nat} (hn : n < 18446744073709551616) (hi : 64 ≤ i) : n.testBit i = false :=
  Nat.testBit_lt_two_pow (Nat.lt_of_lt_of_le hn (by
    have : (2 : Nat) ^ 64 ≤ 2 ^ i := Nat.pow_le_pow_right (by decide) hi
    have e : (2 : Nat) ^ 64 = 18446744073709551616 := by decide
    omega))

theorem withN_lt {n a d v : Nat} (hn : n < 18446744073709551616) (hv : v < 2 ^ d) (h : a + d ≤ 64) : withN n a d v < 18446744073709551616 := by
  have : withN n a d v < 2 ^ 64 := lt_of_bits fun i hi => by
    rw [withN_bit hn hv h, if_neg (by omega)]
    exact high_false hn hi
  simpa using this

/-! ### the code's, in plain numbers -/

theorem wIs_iff (a d : Int) : wIs a d = true ↔ 0 ≤ a ∧ 1 ≤ d ∧ a + d ≤ 64 := by
  unfold wIs
  by_cases h1 : 0 ≤ a
  · by_cases h2 : a < 64
    · have e := wrap_i64 (x := 64 - a) (by omega) (by omega)
      by_cases h3 : 1 ≤ d
      · simp [h1, h2, h3, e]; omega
      · simp [h1, h2, h3]
    · simp [h2]; omega
  · simp [h1]

theorem mask_all : ∀ d : Fin 65, Int.fdiv 18446744073709551615 (2 ^ (64 - d.val)) = ((2 ^ d.val - 1 : Nat) : Int) := by decide +kernel

theorem wMask_eq {d : Nat} (h : d ≤ 64) : wMaskOk (d : Int) = true ∧ wMask (d : Int) = ((2 ^ d - 1 : Nat) : Int) := by
  have e := wrap_i64 (x := 64 - (d : Int)) (by omega) (by omega)
  unfold wMaskOk wMask
  rw [e]
  have h0 : (0 : Int) ≤ 64 - d := by omega
  have hs : shiftN IntKind.u64 (64 - (d : Int)) = 64 - d := by simp only [shiftN, IntKind.bits]; omega
  simp only [h0, hs, decide_true, cond_true, true_and]
  exact mask_all ⟨d, by omega⟩

theorem shift_u64 {a : Nat} (h : a ≤ 64) : shiftN IntKind.u64 (a : Int) = a := by simp only [shiftN, IntKind.bits]; omega

theorem fdiv_pow (n a : Nat) : (n : Int).fdiv (2 ^ a) = ((n / 2 ^ a : Nat) : Int) := by
  rw [Int.fdiv_eq_ediv_of_nonneg _ (by exact_mod_cast Nat.zero_le (2 ^ a))]
  simp

theorem wField_eq {n a d : Nat} (hn : n < 18446744073709551616) (hd : 1 ≤ d) (h : a + d ≤ 64) : wField (n : Int) (a : Int) (d : Int) = (fieldN n a d : Int) ∧ wFieldOk (n : Int) (a : Int) (d : Int) = true := by
  have h1 : wIs (a : Int) (d : Int) = true := (wIs_iff _ _).2 (by omega)
  obtain ⟨h2, h3⟩ := wMask_eq (d := d) (by omega)
  have h4 : (0 : Int) ≤ a := by omega
  unfold wField wFieldOk
  simp only [h1, h2, h3, h4, Bool.not_true, cond_false, decide_true, cond_true, and_true, shift_u64 (show a ≤ 64 by omega), fdiv_pow]
  have h5 : n / 2 ^ a < 18446744073709551616 := Nat.lt_of_le_of_lt (Nat.div_le_self _ _) hn
  have h6 : 2 ^ d - 1 < 18446744073709551616 := by simpa using mask_lt (a := 0) (d := d) (by omega)
  exact u64_and_nat _ _ h5 h6

theorem wField_no {x a d : Int} (h : wIs a d = false) : wField x a d = 0 ∧ wFieldOk x a d = true := by simp [wField, wFieldOk, h]

theorem andNot_mask {v d : Nat} (hv : v < 18446744073709551616) (hd : d ≤ 64) : (bits .andNot .u64 (v : Int) ((2 ^ d - 1 : Nat) : Int) != 0) = decide (2 ^ d ≤ v) := by
  have h6 : 2 ^ d - 1 < 18446744073709551616 := by simpa using mask_lt (a := 0) (d := d) (by omega)
  rw [u64_andNot_nat _ _ hv h6]
  have e : 18446744073709551615 - (2 ^ d - 1) = 2 ^ 64 - ((2 ^ d - 1) + 1) := by
    have : (2 : Nat) ^ 64 = 18446744073709551616 := by decide
    omega
  have hb : ∀ i, (v &&& (18446744073709551615 - (2 ^ d - 1))).testBit i = (v.testBit i && decide (d ≤ i)) := by
    intro i
    rw [Nat.testBit_and, e, Nat.testBit_two_pow_sub_succ (by simpa using h6), Nat.testBit_two_pow_sub_one]
    by_cases h5 : i < 64
    · by_cases h6 : i < d
      · have : ¬ d ≤ i := by omega
        simp [h5, h6, this]
      · have : d ≤ i := by omega
        simp [h5, h6, this]
    · simp [high_false hv (by omega : 64 ≤ i)]
  by_cases hle : 2 ^ d ≤ v
  · have : (v &&& (18446744073709551615 - (2 ^ d - 1))) ≠ 0 := by
      intro h0
      have : v < 2 ^ d := lt_of_bits fun i hi => by
        have := hb i
        rw [h0] at this
        simpa [hi] using this.symm
      omega
    simp only [hle, decide_true, bne_iff_ne, ne_eq]
    omega
  · have : (v &&& (18446744073709551615 - (2 ^ d - 1))) = 0 := by
      apply Nat.eq_of_testBit_eq
      intro i
      rw [hb]
      by_cases hi : d ≤ i
      · have : v.testBit i = false := Nat.testBit_lt_two_pow (Nat.lt_of_lt_of_le (by omega) (Nat.pow_le_pow_right (by decide) hi))
        simp [this]
      · simp [hi]
    simp [hle, this]

theorem wWith_eq {n a d v : Nat} (hn : n < 18446744073709551616) (hd : 1 ≤ d) (h : a + d ≤ 64) (hv : v < 2 ^ d) :
    wWith (n : Int) (a : Int) (d : Int) (v : Int) = (withN n a d v : Int) ∧ wWithE (n : Int) (a : Int) (d : Int) (v : Int) = 0 ∧ wWithOk (n : Int) (a : Int) (d : Int) (v : Int) = true := by
  have h1 : wIs (a : Int) (d : Int) = true := (wIs_iff _ _).2 (by omega)
  obtain ⟨h2, h3⟩ := wMask_eq (d := d) (by omega)
  have h4 : (0 : Int) ≤ a := by omega
  have hv' : v < 18446744073709551616 := by simpa using val_shift_lt (a := 0) hv (by omega)
  have h5 : (bits .andNot .u64 (v : Int) ((2 ^ d - 1 : Nat) : Int) != 0) = false := by rw [andNot_mask hv' (by omega)]; simpa using hv
  unfold wWith wWithE wWithOk
  simp only [h1, h2, h3, h4, h5, Bool.not_true, cond_false, decide_true, cond_true, and_true, shift_u64 (show a ≤ 64 by omega)]
  have e1 : ((2 ^ d - 1 : Nat) : Int) * 2 ^ a = (((2 ^ d - 1) * 2 ^ a : Nat) : Int) := by simp
  have e2 : (v : Int) * 2 ^ a = ((v * 2 ^ a : Nat) : Int) := by simp
  have l1 := mask_lt h
  have l2 := val_shift_lt hv h
  rw [e1, e2, wrap_u64 (by omega) (by omega), wrap_u64 (by omega) (by omega), u64_andNot_nat _ _ hn l1]
  exact bits_or_u64_nat _ _ (Nat.lt_of_le_of_lt Nat.and_le_left hn) l2

theorem wWith_no {x a d v : Int} (h : wIs a d = false) : wWith x a d v = 0 ∧ wWithE x a d v = 1 ∧ wWithOk x a d v = true := by simp [wWith, wWithE, wWithOk, h]

theorem wWith_long {n a d v : Nat} (hd : 1 ≤ d) (h : a + d ≤ 64) (hv : v < 18446744073709551616) (hl : 2 ^ d ≤ v) :
    wWith (n : Int) (a : Int) (d : Int) (v : Int) = 0 ∧ wWithE (n : Int) (a : Int) (d : Int) (v : Int) = 2 ∧ wWithOk (n : Int) (a : Int) (d : Int) (v : Int) = true := by
  have h1 : wIs (a : Int) (d : Int) = true := (wIs_iff _ _).2 (by omega)
  obtain ⟨h2, h3⟩ := wMask_eq (d := d) (by omega)
  have h5 : (bits .andNot .u64 (v : Int) ((2 ^ d - 1 : Nat) : Int) != 0) = true := by rw [andNot_mask hv (by omega)]; simpa using hl
  unfold wWith wWithE wWithOk
  simp only [h1, h2, h3, h5, Bool.not_true, cond_false, cond_true, and_self]

/-! ### bytes -/

def byteAt (x m : Int) : Int := IntKind.u8.wrap (x.fdiv m)
def joinB (x0 x1 x2 x3 x4 x5 x6 x7 : Int) : Int :=
  bits BinOp.or IntKind.u64   (bits BinOp.or IntKind.u64     (bits BinOp.or IntKind.u64       (bits BinOp.or IntKind.u64         (bits BinOp.or IntKind.u64           (bits BinOp.or IntKind.u64             (bits BinOp.or IntKind.u64 (bits BinOp.or IntKind.u64 0 (IntKind.u64.wrap (IntKind.u64.wrap x0 * 1)))               (IntKind.u64.wrap (IntKind.u64.wrap x1 * 256)))             (IntKind.u64.wrap (IntKind.u64.wrap x2 * 65536)))           (IntKind.u64.wrap (IntKind.u64.wrap x3 * 16777216)))         (IntKind.u64.wrap (IntKind.u64.wrap x4 * 4294967296)))       (IntKind.u64.wrap (IntKind.u64.wrap x5 * 1099511627776)))     (IntKind.u64.wrap (IntKind.u64.wrap x6 * 281474976710656)))   (IntKind.u64.wrap (IntKind.u64.wrap x7 * 72057594037927936))

theorem byteAt_eq {x m : Int} (hm : 0 < m) : byteAt x m = x / m % 256 := by
  rw [byteAt, wrap_u8_mod, Int.fdiv_eq_ediv_of_nonneg _ (by omega)]

theorem or_add {p b i : Nat} (hp : p < 2 ^ i) : p ||| b * 2 ^ i = p + b * 2 ^ i := by
  have := Nat.two_pow_add_eq_or_of_lt hp b
  rw [Nat.or_comm, Nat.mul_comm, ← this, Nat.add_comm]

theorem or_step {p b i : Nat} {P B M : Int} (hP : P = p) (hB : B = b) (hM : M = ((2 ^ i : Nat) : Int)) (hp : p < 2 ^ i) (hb : b < 256) (hi : i ≤ 56) :
    bits BinOp.or IntKind.u64 P (IntKind.u64.wrap (IntKind.u64.wrap B * M)) = ((p + b * 2 ^ i : Nat) : Int) ∧ p + b * 2 ^ i < 2 ^ (i + 8) := by
  subst hP; subst hB; subst hM
  have h1 : (2 : Nat) ^ (i + 8) = 256 * 2 ^ i := by rw [Nat.pow_add]; omega
  have h2 : p + b * 2 ^ i < 2 ^ (i + 8) := by
    have : b * 2 ^ i ≤ 255 * 2 ^ i := Nat.mul_le_mul_right _ (by omega)
    omega
  have h3 : (2 : Nat) ^ (i + 8) ≤ 2 ^ 64 := Nat.pow_le_pow_right (by decide) (by omega)
  have h4 : (2 : Nat) ^ 64 = 18446744073709551616 := by decide
  refine ⟨?_, h2⟩
  rw [wrap_u64_nat (by omega), ← Int.natCast_mul, wrap_u64_nat (by omega), bits_or_u64_nat _ _ (by omega) (by omega), or_add hp]

theorem joinB_nat {b0 b1 b2 b3 b4 b5 b6 b7 : Nat} (h0 : b0 < 256) (h1 : b1 < 256) (h2 : b2 < 256) (h3 : b3 < 256) (h4 : b4 < 256) (h5 : b5 < 256) (h6 : b6 < 256) (h7 : b7 < 256) :
    joinB b0 b1 b2 b3 b4 b5 b6 b7 = ((b0 + b1 * 256 + b2 * 65536 + b3 * 16777216 + b4 * 4294967296 + b5 * 1099511627776 + b6 * 281474976710656 + b7 * 72057594037927936 : Nat) : Int) := by
  unfold joinB
  obtain ⟨e0, k0⟩ := or_step (p := 0) (i := 0) (P := 0) (B := b0) (M := 1) rfl rfl rfl (by decide) h0 (by decide)
  obtain ⟨e1, k1⟩ := or_step (i := 8) (B := b1) (M := 256) e0 rfl rfl k0 h1 (by decide)
  obtain ⟨e2, k2⟩ := or_step (i := 16) (B := b2) (M := 65536) e1 rfl rfl k1 h2 (by decide)
  obtain ⟨e3, k3⟩ := or_step (i := 24) (B := b3) (M := 16777216) e2 rfl rfl k2 h3 (by decide)
  obtain ⟨e4, k4⟩ := or_step (i := 32) (B := b4) (M := 4294967296) e3 rfl rfl k3 h4 (by decide)
  obtain ⟨e5, k5⟩ := or_step (i := 40) (B := b5) (M := 1099511627776) e4 rfl rfl k4 h5 (by decide)
  obtain ⟨e6, k6⟩ := or_step (i := 48) (B := b6) (M := 281474976710656) e5 rfl rfl k5 h6 (by decide)
  obtain ⟨e7, _⟩ := or_step (i := 56) (B := b7) (M := 72057594037927936) e6 rfl rfl k6 h7 (by decide)
  rw [e7]
  congr 1
  omega

theorem joinB_int {b0 b1 b2 b3 b4 b5 b6 b7 : Int} (h0 : 0 ≤ b0 ∧ b0 ≤ 255) (h1 : 0 ≤ b1 ∧ b1 ≤ 255) (h2 : 0 ≤ b2 ∧ b2 ≤ 255) (h3 : 0 ≤ b3 ∧ b3 ≤ 255) (h4 : 0 ≤ b4 ∧ b4 ≤ 255) (h5 : 0 ≤ b5 ∧ b5 ≤ 255) (h6 : 0 ≤ b6 ∧ b6 ≤ 255) (h7 : 0 ≤ b7 ∧ b7 ≤ 255) :
    joinB b0 b1 b2 b3 b4 b5 b6 b7 = b0 + b1 * 256 + b2 * 65536 + b3 * 16777216 + b4 * 4294967296 + b5 * 1099511627776 + b6 * 281474976710656 + b7 * 72057594037927936 := by
  have n : ∀ {x : Int}, 0 ≤ x ∧ x ≤ 255 → ∃ m : Nat, x = m ∧ m < 256 := fun {x} h => ⟨x.toNat, by omega, by omega⟩
  obtain ⟨c0, rfl, k0⟩ := n h0
  obtain ⟨c1, rfl, k1⟩ := n h1
  obtain ⟨c2, rfl, k2⟩ := n h2
  obtain ⟨c3, rfl, k3⟩ := n h3
  obtain ⟨c4, rfl, k4⟩ := n h4
  obtain ⟨c5, rfl, k5⟩ := n h5
  obtain ⟨c6, rfl, k6⟩ := n h6
  obtain ⟨c7, rfl, k7⟩ := n h7
  rw [joinB_nat k0 k1 k2 k3 k4 k5 k6 k7]
  simp

theorem byte_lo (x m : Int) : 0 ≤ byteAt x m ∧ byteAt x m ≤ 255 := by
  rw [byteAt, wrap_u8_mod]; omega

theorem join_bytes {x : Int} (h0 : 0 ≤ x) (h1 : x ≤ 18446744073709551615) :
    joinB (byteAt x 1) (byteAt x 256) (byteAt x 65536) (byteAt x 16777216) (byteAt x 4294967296) (byteAt x 1099511627776) (byteAt x 281474976710656) (byteAt x 72057594037927936) = x := by
  rw [joinB_int (byte_lo _ _) (byte_lo _ _) (byte_lo _ _) (byte_lo _ _) (byte_lo _ _) (byte_lo _ _) (byte_lo _ _) (byte_lo _ _)]
  simp only [byteAt_eq (m := 1) (by decide), byteAt_eq (m := 256) (by decide), byteAt_eq (m := 65536) (by decide), byteAt_eq (m := 16777216) (by decide), byteAt_eq (m := 4294967296) (by decide), byteAt_eq (m := 1099511627776) (by decide), byteAt_eq (m := 281474976710656) (by decide), byteAt_eq (m := 72057594037927936) (by decide)]
  omega

theorem byte_join0 {b0 b1 b2 b3 b4 b5 b6 b7 : Int} (h0 : 0 ≤ b0 ∧ b0 ≤ 255) (h1 : 0 ≤ b1 ∧ b1 ≤ 255) (h2 : 0 ≤ b2 ∧ b2 ≤ 255) (h3 : 0 ≤ b3 ∧ b3 ≤ 255) (h4 : 0 ≤ b4 ∧ b4 ≤ 255) (h5 : 0 ≤ b5 ∧ b5 ≤ 255) (h6 : 0 ≤ b6 ∧ b6 ≤ 255) (h7 : 0 ≤ b7 ∧ b7 ≤ 255) : byteAt (joinB b0 b1 b2 b3 b4 b5 b6 b7) 1 = b0 := by
  rw [joinB_int h0 h1 h2 h3 h4 h5 h6 h7, byteAt_eq (by decide)]
  omega

theorem byte_join1 {b0 b1 b2 b3 b4 b5 b6 b7 : Int} (h0 : 0 ≤ b0 ∧ b0 ≤ 255) (h1 : 0 ≤ b1 ∧ b1 ≤ 255) (h2 : 0 ≤ b2 ∧ b2 ≤ 255) (h3 : 0 ≤ b3 ∧ b3 ≤ 255) (h4 : 0 ≤ b4 ∧ b4 ≤ 255) (h5 : 0 ≤ b5 ∧ b5 ≤ 255) (h6 : 0 ≤ b6 ∧ b6 ≤ 255) (h7 : 0 ≤ b7 ∧ b7 ≤ 255) : byteAt (joinB b0 b1 b2 b3 b4 b5 b6 b7) 256 = b1 := by
  rw [joinB_int h0 h1 h2 h3 h4 h5 h6 h7, byteAt_eq (by decide)]
  omega

theorem byte_join2 {b0 b1 b2 b3 b4 b5 b6 b7 : Int} (h0 : 0 ≤ b0 ∧ b0 ≤ 255) (h1 : 0 ≤ b1 ∧ b1 ≤ 255) (h2 : 0 ≤ b2 ∧ b2 ≤ 255) (h3 : 0 ≤ b3 ∧ b3 ≤ 255) (h4 : 0 ≤ b4 ∧ b4 ≤ 255) (h5 : 0 ≤ b5 ∧ b5 ≤ 255) (h6 : 0 ≤ b6 ∧ b6 ≤ 255) (h7 : 0 ≤ b7 ∧ b7 ≤ 255) : byteAt (joinB b0 b1 b2 b3 b4 b5 b6 b7) 65536 = b2 := by
  rw [joinB_int h0 h1 h2 h3 h4 h5 h6 h7, byteAt_eq (by decide)]
  omega

theorem byte_join3 {b0 b1 b2 b3 b4 b5 b6 b7 : Int} (h0 : 0 ≤ b0 ∧ b0 ≤ 255) (h1 : 0 ≤ b1 ∧ b1 ≤ 255) (h2 : 0 ≤ b2 ∧ b2 ≤ 255) (h3 : 0 ≤ b3 ∧ b3 ≤ 255) (h4 : 0 ≤ b4 ∧ b4 ≤ 255) (h5 : 0 ≤ b5 ∧ b5 ≤ 255) (h6 : 0 ≤ b6 ∧ b6 ≤ 255) (h7 : 0 ≤ b7 ∧ b7 ≤ 255) : byteAt (joinB b0 b1 b2 b3 b4 b5 b6 b7) 16777216 = b3 := by
  rw [joinB_int h0 h1 h2 h3 h4 h5 h6 h7, byteAt_eq (by decide)]
  omega

theorem byte_join4 {b0 b1 b2 b3 b4 b5 b6 b7 : Int} (h0 : 0 ≤ b0 ∧ b0 ≤ 255) (h1 : 0 ≤ b1 ∧ b1 ≤ 255) (h2 : 0 ≤ b2 ∧ b2 ≤ 255) (h3 : 0 ≤ b3 ∧ b3 ≤ 255) (h4 : 0 ≤ b4 ∧ b4 ≤ 255) (h5 : 0 ≤ b5 ∧ b5 ≤ 255) (h6 : 0 ≤ b6 ∧ b6 ≤ 255) (h7 : 0 ≤ b7 ∧ b7 ≤ 255) : byteAt (joinB b0 b1 b2 b3 b4 b5 b6 b7) 4294967296 = b4 := by
  rw [joinB_int h0 h1 h2 h3 h4 h5 h6 h7, byteAt_eq (by decide)]
  omega

theorem byte_join5 {b0 b1 b2 b3 b4 b5 b6 b7 : Int} (h0 : 0 ≤ b0 ∧ b0 ≤ 255) (h1 : 0 ≤ b1 ∧ b1 ≤ 255) (h2 : 0 ≤ b2 ∧ b2 ≤ 255) (h3 : 0 ≤ b3 ∧ b3 ≤ 255) (h4 : 0 ≤ b4 ∧ b4 ≤ 255) (h5 : 0 ≤ b5 ∧ b5 ≤ 255) (h6 : 0 ≤ b6 ∧ b6 ≤ 255) (h7 : 0 ≤ b7 ∧ b7 ≤ 255) : byteAt (joinB b0 b1 b2 b3 b4 b5 b6 b7) 1099511627776 = b5 := by
  rw [joinB_int h0 h1 h2 h3 h4 h5 h6 h7, byteAt_eq (by decide)]
  omega

theorem byte_join6 {b0 b1 b2 b3 b4 b5 b6 b7 : Int} (h0 : 0 ≤ b0 ∧ b0 ≤ 255) (h1 : 0 ≤ b1 ∧ b1 ≤ 255) (h2 : 0 ≤ b2 ∧ b2 ≤ 255) (h3 : 0 ≤ b3 ∧ b3 ≤ 255) (h4 : 0 ≤ b4 ∧ b4 ≤ 255) (h5 : 0 ≤ b5 ∧ b5 ≤ 255) (h6 : 0 ≤ b6 ∧ b6 ≤ 255) (h7 : 0 ≤ b7 ∧ b7 ≤ 255) : byteAt (joinB b0 b1 b2 b3 b4 b5 b6 b7) 281474976710656 = b6 := by
  rw [joinB_int h0 h1 h2 h3 h4 h5 h6 h7, byteAt_eq (by decide)]
  omega

theorem byte_join7 {b0 b1 b2 b3 b4 b5 b6 b7 : Int} (h0 : 0 ≤ b0 ∧ b0 ≤ 255) (h1 : 0 ≤ b1 ∧ b1 ≤ 255) (h2 : 0 ≤ b2 ∧ b2 ≤ 255) (h3 : 0 ≤ b3 ∧ b3 ≤ 255) (h4 : 0 ≤ b4 ∧ b4 ≤ 255) (h5 : 0 ≤ b5 ∧ b5 ≤ 255) (h6 : 0 ≤ b6 ∧ b6 ≤ 255) (h7 : 0 ≤ b7 ∧ b7 ≤ 255) : byteAt (joinB b0 b1 b2 b3 b4 b5 b6 b7) 72057594037927936 = b7 := by
  rw [joinB_int h0 h1 h2 h3 h4 h5 h6 h7, byteAt_eq (by decide)]
  omega
end Go.AM

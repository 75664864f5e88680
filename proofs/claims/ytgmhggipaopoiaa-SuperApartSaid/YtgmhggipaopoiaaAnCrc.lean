/-
  The sum of bytes, step by step, in plain numbers.
-/
import Derived.Test.YtgmhggipaopoiaaAn9
import Derived.Test.YtgmhggipaopoiaaAmW
namespace Go.AM
open Go

/-- One step of the register, as the program takes it. -/
def crcStep (r : Int) : Int := bits BinOp.xor IntKind.u32 (r.fdiv 2) (bits BinOp.and IntKind.u32 3988292384 (IntKind.u32.wrap (0 - bits BinOp.and IntKind.u32 r 1)))

/-- .. as the document does. -/
def refStep (r : Int) : Int := bif bits BinOp.and IntKind.u32 r 1 == 1 then bits BinOp.xor IntKind.u32 (r.fdiv 2) 3988292384 else r.fdiv 2

def iter (f : Int → Int) : Nat → Int → Int
  | 0, r => r
  | n + 1, r => iter f n (f r)

/-- The register behind 'm' bytes from 'i' on. -/
def crcFold (f : Int → Int) (g : Nat → Int) : Nat → Nat → Int → Int
  | 0, _, r => r
  | m + 1, i, r => crcFold f g m (i + 1) (iter f 8 (bits BinOp.xor IntKind.u32 r (IntKind.u32.wrap (g i))))

/-! ### in plain numbers -/

def stpN (n : Nat) : Nat := n / 2 ^^^ (if n % 2 = 1 then 3988292384 else 0)

theorem stpN_lt {n : Nat} (h : n < 4294967296) : stpN n < 4294967296 := by
  have : stpN n < 2 ^ 32 := by
    unfold stpN
    refine Nat.xor_lt_two_pow (by omega) ?_
    split <;> decide
  simpa using this

theorem and_one (n : Nat) : n &&& 1 = n % 2 := Nat.and_one_is_mod n

theorem crcStep_nat {n : Nat} (h : n < 4294967296) : crcStep (n : Int) = stpN n := by
  unfold crcStep stpN
  have e1 : ((n : Int)).fdiv 2 = ((n / 2 : Nat) : Int) := by rw [Int.fdiv_eq_ediv_of_nonneg _ (by decide)]; rfl
  have e2 : bits BinOp.and IntKind.u32 (n : Int) 1 = ((n % 2 : Nat) : Int) := by
    rw [← and_one]; exact u32_and_nat n 1 h (by decide)
  rw [e1, e2]
  rcases Nat.mod_two_eq_zero_or_one n with h0 | h1
  · rw [h0]
    have : bits BinOp.and IntKind.u32 3988292384 (IntKind.u32.wrap (0 - ((0 : Nat) : Int))) = ((0 : Nat) : Int) := by decide +kernel
    rw [this, u32_xor_nat _ _ (by omega) (by decide)]
    simp
  · rw [h1]
    have : bits BinOp.and IntKind.u32 3988292384 (IntKind.u32.wrap (0 - ((1 : Nat) : Int))) = ((3988292384 : Nat) : Int) := by decide +kernel
    rw [this, u32_xor_nat _ _ (by omega) (by decide)]
    simp

theorem refStep_nat {n : Nat} (h : n < 4294967296) : refStep (n : Int) = stpN n := by
  unfold refStep stpN
  have e1 : ((n : Int)).fdiv 2 = ((n / 2 : Nat) : Int) := by rw [Int.fdiv_eq_ediv_of_nonneg _ (by decide)]; rfl
  have e2 : bits BinOp.and IntKind.u32 (n : Int) 1 = ((n % 2 : Nat) : Int) := by
    rw [← and_one]; exact u32_and_nat n 1 h (by decide)
  rw [e1, e2]
  rcases Nat.mod_two_eq_zero_or_one n with h0 | h1
  · simp [h0]
  · rw [h1]
    have := u32_xor_nat (n / 2) 3988292384 (by omega) (by decide)
    rw [if_pos rfl, ← this]
    rfl

def iterN : Nat → Nat → Nat
  | 0, r => r
  | n + 1, r => iterN n (stpN r)

theorem iterN_lt : ∀ {k n : Nat}, n < 4294967296 → iterN k n < 4294967296
  | 0, _, h => h
  | k + 1, _, h => iterN_lt (k := k) (stpN_lt h)

theorem iter_nat {f : Int → Int} (hf : ∀ n : Nat, n < 4294967296 → f (n : Int) = stpN n) : ∀ {k n : Nat}, n < 4294967296 → iter f k (n : Int) = iterN k n
  | 0, _, _ => rfl
  | k + 1, n, h => by
    rw [iter, hf n h, iter_nat hf (stpN_lt h)]
    rfl

def foldN (b : Nat → Nat) : Nat → Nat → Nat → Nat
  | 0, _, r => r
  | m + 1, i, r => foldN b m (i + 1) (iterN 8 (r ^^^ b i))

theorem xor_lt32 {a b : Nat} (ha : a < 4294967296) (hb : b < 4294967296) : a ^^^ b < 4294967296 := Nat.xor_lt_two_pow (n := 32) ha hb

theorem foldN_lt {b : Nat → Nat} : ∀ {m i r : Nat}, (∀ j, i ≤ j → j < i + m → b j < 256) → r < 4294967296 → foldN b m i r < 4294967296
  | 0, _, _, _, h => h
  | m + 1, i, r, hb, h => by
    have h0 := hb i (by omega) (by omega)
    rw [foldN]
    exact foldN_lt (fun j h1 h2 => hb j (by omega) (by omega)) (iterN_lt (xor_lt32 h (by omega)))

def IsBytes (m : Nat) (b : Nat → Int) : Prop := ∀ j, j < m → 0 ≤ b j ∧ b j < 256

theorem crcFold_nat {f : Int → Int} (hf : ∀ n : Nat, n < 4294967296 → f (n : Int) = stpN n) {b : Nat → Int} : ∀ {m i r : Nat}, (∀ j, i ≤ j → j < i + m → 0 ≤ b j ∧ b j < 256) → r < 4294967296 →
    crcFold f b m i (r : Int) = foldN (fun j => (b j).toNat) m i r
  | 0, _, _, _, _ => rfl
  | m + 1, i, r, hb, h => by
    have h0 := hb i (by omega) (by omega)
    have e : b i = ((b i).toNat : Int) := by omega
    have hlt : (b i).toNat < 256 := by omega
    rw [crcFold, e, wrap_u32 (by omega) (by omega), u32_xor_nat r _ h (by omega), iter_nat hf (xor_lt32 h (by omega)),
      crcFold_nat hf (fun j h1 h2 => hb j (by omega) (by omega)) (iterN_lt (xor_lt32 h (by omega)))]
    rfl

/-- The sum of more bytes. -/
def crcN (x m : Nat) (b : Nat → Nat) : Nat := 4294967295 ^^^ foldN b m 0 (4294967295 ^^^ x)

def natB (b : Nat → Int) : Nat → Nat := fun j => (b j).toNat

def sumBy (f : Int → Int) (x : Int) (m : Nat) (b : Nat → Int) : Int := bits BinOp.xor IntKind.u32 4294967295 (crcFold f b m 0 (bits BinOp.xor IntKind.u32 4294967295 x))

theorem sumBy_nat {f : Int → Int} (hf : ∀ n : Nat, n < 4294967296 → f (n : Int) = stpN n) {b : Nat → Int} {m x : Nat} (hb : IsBytes m b) (hx : x < 4294967296) : sumBy f (x : Int) m b = crcN x m (natB b) := by
  have hb' : ∀ j, 0 ≤ j → j < 0 + m → 0 ≤ b j ∧ b j < 256 := fun j _ h => hb j (by omega)
  have hx' : 4294967295 ^^^ x < 4294967296 := xor_lt32 (by decide) hx
  have e1 : bits BinOp.xor IntKind.u32 4294967295 (x : Int) = ((4294967295 ^^^ x : Nat) : Int) := u32_xor_nat 4294967295 x (by decide) hx
  have hfl : foldN (natB b) m 0 (4294967295 ^^^ x) < 4294967296 := foldN_lt (fun j h1 h2 => by have := hb' j h1 h2; unfold natB; omega) hx'
  unfold sumBy
  rw [e1, crcFold_nat hf hb' hx']
  exact u32_xor_nat 4294967295 _ (by decide) hfl

theorem crcN_lt {x m : Nat} {b : Nat → Nat} (hb : ∀ j, j < m → b j < 256) (hx : x < 4294967296) : crcN x m b < 4294967296 :=
  xor_lt32 (by decide) (foldN_lt (fun j _ h => hb j (by omega)) (xor_lt32 (by decide) hx))

theorem natB_lt {m : Nat} {b : Nat → Int} (hb : IsBytes m b) : ∀ j, j < m → natB b j < 256 := fun j h => by have := hb j h; unfold natB; omega

theorem foldN_congr {b c : Nat → Nat} : ∀ {m i r : Nat}, (∀ j, i ≤ j → j < i + m → b j = c j) → foldN b m i r = foldN c m i r
  | 0, _, _, _ => rfl
  | m + 1, i, r, h => by rw [foldN, foldN, h i (by omega) (by omega), foldN_congr fun j h1 h2 => h j (by omega) (by omega)]

theorem foldN_add {b : Nat → Nat} : ∀ {m n i r : Nat}, foldN b (m + n) i r = foldN b n (i + m) (foldN b m i r)
  | 0, n, i, r => by rw [Nat.zero_add]; rfl
  | m + 1, n, i, r => by
    rw [show m + 1 + n = (m + n) + 1 by omega, foldN, foldN, foldN_add, show i + 1 + m = i + (m + 1) by omega]

theorem foldN_shift {b : Nat → Nat} {k : Nat} : ∀ {m i r : Nat}, foldN (fun j => b (k + j)) m i r = foldN b m (k + i) r
  | 0, _, _ => rfl
  | m + 1, i, r => by rw [foldN, foldN, foldN_shift]; rfl

theorem crcN_congr {b c : Nat → Nat} {x m : Nat} (h : ∀ j, j < m → b j = c j) : crcN x m b = crcN x m c := by
  unfold crcN
  rw [foldN_congr fun j _ h2 => h j (by omega)]

theorem xor_left_can {a b c : Nat} (h : a ^^^ b = a ^^^ c) : b = c := by
  have := congrArg (a ^^^ ·) h
  simpa [← Nat.xor_assoc, Nat.xor_self, Nat.zero_xor] using this
theorem xor_right_can {a b c : Nat} (h : b ^^^ a = c ^^^ a) : b = c := by
  rw [Nat.xor_comm b, Nat.xor_comm c] at h
  exact xor_left_can h

theorem xor_cancel (a x : Nat) : a ^^^ (a ^^^ x) = x := by rw [← Nat.xor_assoc, Nat.xor_self, Nat.zero_xor]

theorem crcN_two {a b c : Nat → Nat} {x m n : Nat} (h1 : ∀ j, j < m → c j = a j) (h2 : ∀ j, j < n → c (m + j) = b j) : crcN (crcN x m a) n b = crcN x (m + n) c := by
  unfold crcN
  rw [xor_cancel, foldN_add, Nat.zero_add, foldN_congr (b := c) (c := a) (m := m) fun j _ h => h1 j (by omega)]
  congr 1
  have := foldN_shift (b := c) (k := m) (m := n) (i := 0) (r := foldN a m 0 (4294967295 ^^^ x))
  rw [Nat.add_zero] at this
  rw [← this]
  exact (foldN_congr fun j _ h => h2 j (by omega)).symm

theorem crcN_zero {b : Nat → Nat} {x : Nat} : crcN x 0 b = x := xor_cancel _ _

/-! ### laid over one another -/

theorem stpN_xor (a b : Nat) : stpN (a ^^^ b) = stpN a ^^^ stpN b := by
  unfold stpN
  have hd : (a ^^^ b) / 2 = a / 2 ^^^ b / 2 := by
    have := Nat.shiftRight_xor_distrib (a := a) (b := b) (i := 1)
    simpa [Nat.shiftRight_eq_div_pow] using this
  have hm : (a ^^^ b) % 2 = (a % 2 + b % 2) % 2 := by
    have h1 : (a ^^^ b).testBit 0 = (a.testBit 0 ^^ b.testBit 0) := Nat.testBit_xor ..
    simp only [Nat.testBit_zero] at h1
    rcases Nat.mod_two_eq_zero_or_one a with ha | ha <;> rcases Nat.mod_two_eq_zero_or_one b with hb | hb <;> rcases Nat.mod_two_eq_zero_or_one (a ^^^ b) with hc | hc <;> simp_all
  rw [hd, hm]
  rcases Nat.mod_two_eq_zero_or_one a with ha | ha <;> rcases Nat.mod_two_eq_zero_or_one b with hb | hb <;> simp only [ha, hb]
  · simp
  · simp [Nat.xor_assoc]
  · simp only [Nat.add_zero, Nat.one_mod, if_true, Nat.zero_ne_one, if_false, Nat.xor_zero, Nat.xor_assoc]
    congr 1
    exact Nat.xor_comm ..
  · simp only [Nat.reduceAdd, Nat.reduceMod, Nat.zero_ne_one, if_false, if_true, Nat.xor_zero, Nat.xor_assoc]
    congr 1
    rw [Nat.xor_comm (b / 2), ← Nat.xor_assoc, Nat.xor_self, Nat.zero_xor]

theorem iterN_xor : ∀ (k a b : Nat), iterN k (a ^^^ b) = iterN k a ^^^ iterN k b
  | 0, _, _ => rfl
  | k + 1, a, b => by rw [iterN, iterN, iterN, stpN_xor, iterN_xor]

theorem xor4 (r s b c : Nat) : (r ^^^ s) ^^^ (b ^^^ c) = (r ^^^ b) ^^^ (s ^^^ c) := by
  rw [Nat.xor_assoc, Nat.xor_assoc]
  congr 1
  rw [← Nat.xor_assoc, ← Nat.xor_assoc, Nat.xor_comm s b]

theorem foldN_xor {b c : Nat → Nat} : ∀ {m i r s : Nat}, foldN (fun j => b j ^^^ c j) m i (r ^^^ s) = foldN b m i r ^^^ foldN c m i s
  | 0, _, _, _ => rfl
  | m + 1, i, r, s => by rw [foldN, foldN, foldN, xor4, iterN_xor, foldN_xor]

theorem crcN_three {a b c : Nat → Nat} {m : Nat} : crcN 0 m a ^^^ crcN 0 m b ^^^ crcN 0 m c = crcN 0 m (fun j => a j ^^^ b j ^^^ c j) := by
  unfold crcN
  simp only [Nat.xor_zero]
  have e : foldN (fun j => a j ^^^ b j ^^^ c j) m 0 4294967295 = foldN a m 0 4294967295 ^^^ foldN b m 0 4294967295 ^^^ foldN c m 0 4294967295 := by
    have h1 := foldN_xor (b := fun j => a j ^^^ b j) (c := c) (m := m) (i := 0) (r := 4294967295 ^^^ 4294967295) (s := 4294967295)
    have h2 := foldN_xor (b := a) (c := b) (m := m) (i := 0) (r := 4294967295) (s := 4294967295)
    rw [h2] at h1
    simpa using h1
  rw [e]
  generalize foldN a m 0 4294967295 = p
  generalize foldN b m 0 4294967295 = q
  generalize foldN c m 0 4294967295 = r
  have e2 : (4294967295 ^^^ p) ^^^ (4294967295 ^^^ q) = p ^^^ q := by
    rw [← xor4, Nat.xor_self, Nat.zero_xor]
  rw [e2, ← Nat.xor_assoc, Nat.xor_comm (p ^^^ q), Nat.xor_assoc]

/-! ### what is turned is seen -/

theorem stpN_inj {a b : Nat} (ha : a < 4294967296) (hb : b < 4294967296) (h : stpN a = stpN b) : a = b := by
  have hbit : ∀ n : Nat, n < 4294967296 → (stpN n).testBit 31 = decide (n % 2 = 1) := by
    intro n hn
    unfold stpN
    rw [Nat.testBit_xor]
    have h1 : (n / 2).testBit 31 = false := Nat.testBit_lt_two_pow (by omega)
    rw [h1]
    split
    · rename_i hm; simp only [hm]; decide
    · rename_i hm; simp [hm]
  have h2 : (a % 2 = 1) ↔ (b % 2 = 1) := by
    have e1 := hbit a ha
    have e2 := hbit b hb
    rw [h] at e1
    rw [e1] at e2
    simpa using e2
  unfold stpN at h
  have h3 : a / 2 = b / 2 := by
    by_cases hm : a % 2 = 1
    · rw [if_pos hm, if_pos (h2.1 hm)] at h
      exact xor_right_can h
    · rw [if_neg hm, if_neg (fun e => hm (h2.2 e))] at h
      simpa using h
  omega

theorem iterN_inj : ∀ {k a b : Nat}, a < 4294967296 → b < 4294967296 → iterN k a = iterN k b → a = b
  | 0, _, _, _, _, h => h
  | k + 1, _, _, ha, hb, h => stpN_inj ha hb (iterN_inj (stpN_lt ha) (stpN_lt hb) h)

theorem foldN_inj {b : Nat → Nat} : ∀ {m i r s : Nat}, (∀ j, i ≤ j → j < i + m → b j < 256) → r < 4294967296 → s < 4294967296 → foldN b m i r = foldN b m i s → r = s
  | 0, _, _, _, _, _, _, h => h
  | m + 1, i, r, s, hb, hr, hs, h => by
    have h0 := hb i (by omega) (by omega)
    have h1 := xor_lt32 hr (show b i < 4294967296 by omega)
    have h2 := xor_lt32 hs (show b i < 4294967296 by omega)
    have e := foldN_inj (fun j h1 h2 => hb j (by omega) (by omega)) (iterN_lt h1) (iterN_lt h2) h
    exact xor_right_can (iterN_inj h1 h2 e)

theorem foldN_turn {b c : Nat → Nat} {k : Nat} : ∀ {m i r : Nat}, (∀ j, i ≤ j → j < i + m → b j < 256) → (∀ j, i ≤ j → j < i + m → c j < 256) → r < 4294967296 → i ≤ k → k < i + m → (∀ j, j ≠ k → b j = c j) → foldN b m i r = foldN c m i r → b k = c k
  | 0, i, r, _, _, _, h1, h2, _, _ => by omega
  | m + 1, i, r, hb, hc, hr, h1, h2, he, h => by
    have b0 := hb i (by omega) (by omega)
    have c0 := hc i (by omega) (by omega)
    have q1 := xor_lt32 hr (show b i < 4294967296 by omega)
    have q2 := xor_lt32 hr (show c i < 4294967296 by omega)
    by_cases hk : i = k
    · subst hk
      rw [foldN, foldN, foldN_congr (c := c) (m := m) fun j g1 g2 => he j (by omega)] at h
      have e := foldN_inj (fun j g1 g2 => hc j (by omega) (by omega)) (iterN_lt q1) (iterN_lt q2) h
      exact xor_left_can (iterN_inj q1 q2 e)
    · rw [foldN, foldN, he i hk] at h
      exact foldN_turn (fun j g1 g2 => hb j (by omega) (by omega)) (fun j g1 g2 => hc j (by omega) (by omega)) (iterN_lt q2) (by omega) (by omega) he h

theorem crcN_turn {b c : Nat → Nat} {k m x : Nat} (hb : ∀ j, j < m → b j < 256) (hc : ∀ j, j < m → c j < 256) (hx : x < 4294967296) (hk : k < m) (he : ∀ j, j ≠ k → b j = c j) (h : crcN x m b = crcN x m c) : b k = c k := by
  unfold crcN at h
  have h := xor_left_can h
  exact foldN_turn (fun j _ g => hb j (by omega)) (fun j _ g => hc j (by omega)) (xor_lt32 (by decide) hx) (Nat.zero_le _) (by omega) he h
end Go.AM

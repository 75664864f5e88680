/-
  Sums and seals, in plain numbers.
-/
import Derived.Test.YthpcjcdiaifoiaaCrc1ToCrc2
import Derived.Test.YthpcjcdiaifoiaaNvM1ToNvV2
import Derived.KernelRfl
import Derived.Test.YthpcjcdiaifoiaaG1ToNvS4
section
namespace Go.Proofs.Ythpcjcdiaifoiaa.G
open Go Go.AM Go.Proofs

theorem crcMore_eq (x : Int) {n : Nat} (g : Nat → Nat → Int) (h : n < 9223372036854775807) : ok_crcMore x n g = true ∧ r_crcMore_0 x n g = sumBy crcStep x n (fun j => g j 0) := by
  have hc : (decide ((0 : Int) ≤ 0) && decide ((0 : Int) ≤ (n : Int)) && decide ((n : Int) = (n : Int)) && decide ((n : Int) < 9223372036854775807)) = true := by
    simp only [Bool.and_eq_true, decide_eq_true_eq]
    exact ⟨⟨⟨by omega, by omega⟩, trivial⟩, by omega⟩
  unfold ok_crcMore r_crcMore_0
  change (bif (decide ((0 : Int) ≤ 0) && decide ((0 : Int) ≤ (n : Int)) && decide ((n : Int) = (n : Int)) && decide ((n : Int) < 9223372036854775807)) then _ else _) = _ ∧ (bif (decide ((0 : Int) ≤ 0) && decide ((0 : Int) ≤ (n : Int)) && decide ((n : Int) = (n : Int)) && decide ((n : Int) < 9223372036854775807)) then _ else _) = _
  rw [hc]
  refine ⟨rfl, ?_⟩
  rw [cond_true, show ((n : Int) - 0).toNat = n by omega]
  rfl

theorem crcSum_eq {n : Nat} (g : Nat → Nat → Int) (h : n < 9223372036854775807) : ok_crcSum n g = true ∧ r_crcSum_0 n g = sumBy crcStep 0 n (fun j => g j 0) := by
  obtain ⟨h1, h2⟩ := crcMore_eq 0 (fun j cc => g (0 + j) cc) h
  unfold ok_crcSum r_crcSum_0
  rw [h1, h2]
  simp

theorem refReg_eq (x : Int) {n : Nat} (g : Nat → Nat → Int) (h : n < 9223372036854775807) : ok_refReg x n g = true ∧ r_refReg_0 x n g = crcFold refStep (fun j => g j 0) n 0 x := by
  have hc : (decide ((0 : Int) ≤ 0) && decide ((0 : Int) ≤ (n : Int)) && decide ((n : Int) < 9223372036854775807)) = true := by
    simp only [Bool.and_eq_true, decide_eq_true_eq]; omega
  unfold ok_refReg r_refReg_0
  change (bif (decide ((0 : Int) ≤ 0) && decide ((0 : Int) ≤ (n : Int)) && decide ((n : Int) < 9223372036854775807)) then _ else _) = _ ∧ (bif (decide ((0 : Int) ≤ 0) && decide ((0 : Int) ≤ (n : Int)) && decide ((n : Int) < 9223372036854775807)) then _ else _) = _
  rw [hc]
  refine ⟨rfl, ?_⟩
  rw [cond_true, show ((n : Int) - 0).toNat = n by omega]

theorem refSum_eq {n : Nat} (g : Nat → Nat → Int) (h : n < 9223372036854775807) : ok_refSum n g = true ∧ r_refSum_0 n g = sumBy refStep 0 n (fun j => g j 0) := by
  obtain ⟨h1, h2⟩ := refReg_eq 4294967295 (fun j cc => g (0 + j) cc) h
  unfold ok_refSum r_refSum_0
  rw [h1, h2]
  refine ⟨rfl, ?_⟩
  have e : bits BinOp.xor IntKind.u32 4294967295 0 = 4294967295 := by decide +kernel
  unfold sumBy
  rw [e]
  simp

/-! ### words as bytes -/

theorem wrap_byte {x : Int} {k : Int} (h0 : 0 ≤ x) (hk : 0 < k) : IntKind.wrap IntKind.u8 (Int.fdiv x k) = ((x.toNat / k.toNat % 256 : Nat) : Int) := by
  rw [wrap_u8_mod, Int.fdiv_eq_ediv_of_nonneg _ (by omega)]
  obtain ⟨n, rfl⟩ := Int.eq_ofNat_of_zero_le h0
  obtain ⟨m, rfl⟩ := Int.eq_ofNat_of_zero_le (show 0 ≤ k by omega)
  simp only [Int.toNat_natCast]
  rfl

/-- The byte 'j' of seven words. -/
def byteOf (w : Nat → Nat) (j : Nat) : Nat := w (j / 8) / 2 ^ (8 * (j % 8)) % 256

def words7 (x0 x1 x2 x3 x4 x5 x6 : Int) : Nat → Nat := fun i => ([x0, x1, x2, x3, x4, x5, x6].getD i 0).toNat

def sealRows (x0 x1 x2 x3 x4 x5 x6 : Int) : List (List Int) :=
  [[r_wordBytes_0 x0], [r_wordBytes_1 x0], [r_wordBytes_2 x0], [r_wordBytes_3 x0], [r_wordBytes_4 x0], [r_wordBytes_5 x0], [r_wordBytes_6 x0], [r_wordBytes_7 x0],
   [r_wordBytes_8 x1], [r_wordBytes_9 x1], [r_wordBytes_10 x1], [r_wordBytes_11 x1], [r_wordBytes_12 x1], [r_wordBytes_13 x1], [r_wordBytes_14 x1], [r_wordBytes_15 x1],
   [r_wordBytes_16 x2], [r_wordBytes_17 x2], [r_wordBytes_18 x2], [r_wordBytes_19 x2], [r_wordBytes_20 x2], [r_wordBytes_21 x2], [r_wordBytes_22 x2], [r_wordBytes_23 x2],
   [r_wordBytes_24 x3], [r_wordBytes_25 x3], [r_wordBytes_26 x3], [r_wordBytes_27 x3], [r_wordBytes_28 x3], [r_wordBytes_29 x3], [r_wordBytes_30 x3], [r_wordBytes_31 x3],
   [r_wordBytes_32 x4], [r_wordBytes_33 x4], [r_wordBytes_34 x4], [r_wordBytes_35 x4], [r_wordBytes_36 x4], [r_wordBytes_37 x4], [r_wordBytes_38 x4], [r_wordBytes_39 x4],
   [r_wordBytes_40 x5], [r_wordBytes_41 x5], [r_wordBytes_42 x5], [r_wordBytes_43 x5], [r_wordBytes_44 x5], [r_wordBytes_45 x5], [r_wordBytes_46 x5], [r_wordBytes_47 x5],
   [r_wordBytes_48 x6], [r_wordBytes_49 x6], [r_wordBytes_50 x6], [r_wordBytes_51 x6], [r_wordBytes_52 x6], [r_wordBytes_53 x6], [r_wordBytes_54 x6], [r_wordBytes_55 x6]]

theorem byte_at {x : Int} (h : 0 ≤ x) {w : Nat → Nat} {i : Nat} (hw : w i = x.toNat) (k : Nat) (hk : k < 8) (p : Int) (hp : p = ((2 ^ (8 * k) : Nat) : Int)) : IntKind.wrap IntKind.u8 (Int.fdiv x p) = ((byteOf w (8 * i + k) : Nat) : Int) := by
  subst hp
  rw [wrap_byte h (by have := Nat.two_pow_pos (8 * k); omega)]
  unfold byteOf
  rw [show (8 * i + k) / 8 = i by omega, show (8 * i + k) % 8 = k by omega, hw]
  rfl

theorem sealRows_byte {x0 x1 x2 x3 x4 x5 x6 : Int} (h0 : 0 ≤ x0) (h1 : 0 ≤ x1) (h2 : 0 ≤ x2) (h3 : 0 ≤ x3) (h4 : 0 ≤ x4) (h5 : 0 ≤ x5) (h6 : 0 ≤ x6) : ∀ j, j < 56 →
    rowsF (sealRows x0 x1 x2 x3 x4 x5 x6) j 0 = ((byteOf (words7 x0 x1 x2 x3 x4 x5 x6) j : Nat) : Int) := by
  intro j hj
  have d : j / 8 = 0 ∨ j / 8 = 1 ∨ j / 8 = 2 ∨ j / 8 = 3 ∨ j / 8 = 4 ∨ j / 8 = 5 ∨ j / 8 = 6 := by omega
  have m : j % 8 = 0 ∨ j % 8 = 1 ∨ j % 8 = 2 ∨ j % 8 = 3 ∨ j % 8 = 4 ∨ j % 8 = 5 ∨ j % 8 = 6 ∨ j % 8 = 7 := by omega
  rcases d with d | d | d | d | d | d | d
  all_goals
    rcases m with m | m | m | m | m | m | m | m
    all_goals
      have e : j = 8 * (j / 8) + j % 8 := by omega
      rw [d, m] at e
      subst e
      first
        | exact byte_at h0 (w := words7 x0 x1 x2 x3 x4 x5 x6) (i := 0) rfl _ (by omega) _ rfl
        | exact byte_at h1 (w := words7 x0 x1 x2 x3 x4 x5 x6) (i := 1) rfl _ (by omega) _ rfl
        | exact byte_at h2 (w := words7 x0 x1 x2 x3 x4 x5 x6) (i := 2) rfl _ (by omega) _ rfl
        | exact byte_at h3 (w := words7 x0 x1 x2 x3 x4 x5 x6) (i := 3) rfl _ (by omega) _ rfl
        | exact byte_at h4 (w := words7 x0 x1 x2 x3 x4 x5 x6) (i := 4) rfl _ (by omega) _ rfl
        | exact byte_at h5 (w := words7 x0 x1 x2 x3 x4 x5 x6) (i := 5) rfl _ (by omega) _ rfl
        | exact byte_at h6 (w := words7 x0 x1 x2 x3 x4 x5 x6) (i := 6) rfl _ (by omega) _ rfl

/-- The word that seals seven others. -/
def sealN (w : Nat → Nat) : Nat := 4294967296 + crcN 0 56 (byteOf w)

theorem byteOf_lt (w : Nat → Nat) (j : Nat) : byteOf w j < 256 := Nat.mod_lt _ (by decide)

theorem sealN_lt (w : Nat → Nat) : sealN w < 8589934592 := by
  have := crcN_lt (x := 0) (m := 56) (b := byteOf w) (fun j _ => byteOf_lt w j) (by decide)
  unfold sealN; omega

theorem or_mark {n : Nat} (h : n < 4294967296) : 4294967296 ||| n = 4294967296 + n := by
  have := Nat.two_pow_add_eq_or_of_lt (i := 32) (b := n) (by simpa using h) 1
  simpa using this.symm

theorem sum_seal {f : Int → Int} (hf : ∀ n : Nat, n < 4294967296 → f (n : Int) = stpN n) {x0 x1 x2 x3 x4 x5 x6 : Int} (h0 : 0 ≤ x0) (h1 : 0 ≤ x1) (h2 : 0 ≤ x2) (h3 : 0 ≤ x3) (h4 : 0 ≤ x4) (h5 : 0 ≤ x5) (h6 : 0 ≤ x6) :
    sumBy f 0 56 (fun j => rowsF (sealRows x0 x1 x2 x3 x4 x5 x6) j 0) = (crcN 0 56 (byteOf (words7 x0 x1 x2 x3 x4 x5 x6)) : Nat) := by
  have hb := sealRows_byte h0 h1 h2 h3 h4 h5 h6
  have hB : IsBytes 56 (fun j => rowsF (sealRows x0 x1 x2 x3 x4 x5 x6) j 0) := fun j hj => by
    show 0 ≤ rowsF (sealRows x0 x1 x2 x3 x4 x5 x6) j 0 ∧ rowsF (sealRows x0 x1 x2 x3 x4 x5 x6) j 0 < 256
    rw [hb j hj]
    have := byteOf_lt (words7 x0 x1 x2 x3 x4 x5 x6) j
    omega
  have := sumBy_nat hf hB (x := 0) (by decide)
  rw [show ((0 : Nat) : Int) = 0 from rfl] at this
  rw [this]
  congr 1
  exact crcN_congr fun j hj => by
    show (rowsF (sealRows x0 x1 x2 x3 x4 x5 x6) j 0).toNat = _
    rw [hb j hj]; rfl

theorem sum_ok (x0 x1 x2 x3 x4 x5 x6 : Int) : ok_crcSum 56 (rowsF (sealRows x0 x1 x2 x3 x4 x5 x6)) = true := (crcSum_eq (rowsF (sealRows x0 x1 x2 x3 x4 x5 x6)) (by decide)).1

theorem ok_seal (x0 x1 x2 x3 x4 x5 x6 x7 : Int) : ok_crcSeal x0 x1 x2 x3 x4 x5 x6 x7 = true := by
  show (bif ok_crcSum 56 (rowsF (sealRows x0 x1 x2 x3 x4 x5 x6)) then true else false) = true
  rw [sum_ok]; rfl
theorem seal_0 (x0 x1 x2 x3 x4 x5 x6 : Int) : r_crcSeal_0 x0 x1 x2 x3 x4 x5 x6 = x0 := by
  show (bif ok_crcSum 56 (rowsF (sealRows x0 x1 x2 x3 x4 x5 x6)) then x0 else 0) = x0
  rw [sum_ok]; rfl
theorem seal_1 (x0 x1 x2 x3 x4 x5 x6 : Int) : r_crcSeal_1 x0 x1 x2 x3 x4 x5 x6 = x1 := by
  show (bif ok_crcSum 56 (rowsF (sealRows x0 x1 x2 x3 x4 x5 x6)) then x1 else 0) = x1
  rw [sum_ok]; rfl
theorem seal_2 (x0 x1 x2 x3 x4 x5 x6 : Int) : r_crcSeal_2 x0 x1 x2 x3 x4 x5 x6 = x2 := by
  show (bif ok_crcSum 56 (rowsF (sealRows x0 x1 x2 x3 x4 x5 x6)) then x2 else 0) = x2
  rw [sum_ok]; rfl
theorem seal_3 (x0 x1 x2 x3 x4 x5 x6 : Int) : r_crcSeal_3 x0 x1 x2 x3 x4 x5 x6 = x3 := by
  show (bif ok_crcSum 56 (rowsF (sealRows x0 x1 x2 x3 x4 x5 x6)) then x3 else 0) = x3
  rw [sum_ok]; rfl
theorem seal_4 (x0 x1 x2 x3 x4 x5 x6 : Int) : r_crcSeal_4 x0 x1 x2 x3 x4 x5 x6 = x4 := by
  show (bif ok_crcSum 56 (rowsF (sealRows x0 x1 x2 x3 x4 x5 x6)) then x4 else 0) = x4
  rw [sum_ok]; rfl
theorem seal_5 (x0 x1 x2 x3 x4 x5 x6 : Int) : r_crcSeal_5 x0 x1 x2 x3 x4 x5 x6 = x5 := by
  show (bif ok_crcSum 56 (rowsF (sealRows x0 x1 x2 x3 x4 x5 x6)) then x5 else 0) = x5
  rw [sum_ok]; rfl
theorem seal_6 (x0 x1 x2 x3 x4 x5 x6 : Int) : r_crcSeal_6 x0 x1 x2 x3 x4 x5 x6 = x6 := by
  show (bif ok_crcSum 56 (rowsF (sealRows x0 x1 x2 x3 x4 x5 x6)) then x6 else 0) = x6
  rw [sum_ok]; rfl
theorem seal_7 {x0 x1 x2 x3 x4 x5 x6 : Int} (h0 : 0 ≤ x0) (h1 : 0 ≤ x1) (h2 : 0 ≤ x2) (h3 : 0 ≤ x3) (h4 : 0 ≤ x4) (h5 : 0 ≤ x5) (h6 : 0 ≤ x6) : r_crcSeal_7 x0 x1 x2 x3 x4 x5 x6 = (sealN (words7 x0 x1 x2 x3 x4 x5 x6) : Nat) := by
  show (bif ok_crcSum 56 (rowsF (sealRows x0 x1 x2 x3 x4 x5 x6)) then bits BinOp.or IntKind.u64 4294967296 (IntKind.wrap IntKind.u64 (r_crcSum_0 56 (rowsF (sealRows x0 x1 x2 x3 x4 x5 x6)))) else 0) = _
  rw [sum_ok, cond_true, (crcSum_eq (rowsF (sealRows x0 x1 x2 x3 x4 x5 x6)) (by decide)).2, sum_seal (fun _ h => crcStep_nat h) h0 h1 h2 h3 h4 h5 h6]
  have := crcN_lt (x := 0) (m := 56) (b := byteOf (words7 x0 x1 x2 x3 x4 x5 x6)) (fun j _ => byteOf_lt _ j) (by decide)
  rw [wrap_u64 (by omega) (by omega)]
  have e := u64_or_nat 4294967296 (crcN 0 56 (byteOf (words7 x0 x1 x2 x3 x4 x5 x6))) (by decide) (by omega)
  rw [or_mark this] at e
  exact e

theorem good_ok (x0 x1 x2 x3 x4 x5 x6 x7 : Int) : ok_crcGood x0 x1 x2 x3 x4 x5 x6 x7 = true := by
  show (bif ok_crcSeal x0 x1 x2 x3 x4 x5 x6 x7 then true else false) = true
  rw [ok_seal]; rfl

theorem good_eq {x0 x1 x2 x3 x4 x5 x6 : Int} (x7 : Int) (h0 : 0 ≤ x0) (h1 : 0 ≤ x1) (h2 : 0 ≤ x2) (h3 : 0 ≤ x3) (h4 : 0 ≤ x4) (h5 : 0 ≤ x5) (h6 : 0 ≤ x6) : r_crcGood_0 x0 x1 x2 x3 x4 x5 x6 x7 = (x7 == ((sealN (words7 x0 x1 x2 x3 x4 x5 x6) : Nat) : Int)) := by
  unfold r_crcGood_0
  rw [ok_seal, seal_0, seal_1, seal_2, seal_3, seal_4, seal_5, seal_6, seal_7 h0 h1 h2 h3 h4 h5 h6]
  simp

/-! ### as the document says -/

theorem rsum_ok (x0 x1 x2 x3 x4 x5 x6 : Int) : ok_refSum 56 (rowsF (sealRows x0 x1 x2 x3 x4 x5 x6)) = true := (refSum_eq (rowsF (sealRows x0 x1 x2 x3 x4 x5 x6)) (by decide)).1

theorem ok_rseal (x0 x1 x2 x3 x4 x5 x6 x7 : Int) : ok_refSeal x0 x1 x2 x3 x4 x5 x6 x7 = true := by
  show (bif ok_refSum 56 (rowsF (sealRows x0 x1 x2 x3 x4 x5 x6)) then true else false) = true
  rw [rsum_ok]; rfl
theorem rseal_0 (x0 x1 x2 x3 x4 x5 x6 : Int) : r_refSeal_0 x0 x1 x2 x3 x4 x5 x6 = x0 := by
  show (bif ok_refSum 56 (rowsF (sealRows x0 x1 x2 x3 x4 x5 x6)) then x0 else 0) = x0
  rw [rsum_ok]; rfl
theorem rseal_1 (x0 x1 x2 x3 x4 x5 x6 : Int) : r_refSeal_1 x0 x1 x2 x3 x4 x5 x6 = x1 := by
  show (bif ok_refSum 56 (rowsF (sealRows x0 x1 x2 x3 x4 x5 x6)) then x1 else 0) = x1
  rw [rsum_ok]; rfl
theorem rseal_2 (x0 x1 x2 x3 x4 x5 x6 : Int) : r_refSeal_2 x0 x1 x2 x3 x4 x5 x6 = x2 := by
  show (bif ok_refSum 56 (rowsF (sealRows x0 x1 x2 x3 x4 x5 x6)) then x2 else 0) = x2
  rw [rsum_ok]; rfl
theorem rseal_3 (x0 x1 x2 x3 x4 x5 x6 : Int) : r_refSeal_3 x0 x1 x2 x3 x4 x5 x6 = x3 := by
  show (bif ok_refSum 56 (rowsF (sealRows x0 x1 x2 x3 x4 x5 x6)) then x3 else 0) = x3
  rw [rsum_ok]; rfl
theorem rseal_4 (x0 x1 x2 x3 x4 x5 x6 : Int) : r_refSeal_4 x0 x1 x2 x3 x4 x5 x6 = x4 := by
  show (bif ok_refSum 56 (rowsF (sealRows x0 x1 x2 x3 x4 x5 x6)) then x4 else 0) = x4
  rw [rsum_ok]; rfl
theorem rseal_5 (x0 x1 x2 x3 x4 x5 x6 : Int) : r_refSeal_5 x0 x1 x2 x3 x4 x5 x6 = x5 := by
  show (bif ok_refSum 56 (rowsF (sealRows x0 x1 x2 x3 x4 x5 x6)) then x5 else 0) = x5
  rw [rsum_ok]; rfl
theorem rseal_6 (x0 x1 x2 x3 x4 x5 x6 : Int) : r_refSeal_6 x0 x1 x2 x3 x4 x5 x6 = x6 := by
  show (bif ok_refSum 56 (rowsF (sealRows x0 x1 x2 x3 x4 x5 x6)) then x6 else 0) = x6
  rw [rsum_ok]; rfl
theorem rseal_7 {x0 x1 x2 x3 x4 x5 x6 : Int} (h0 : 0 ≤ x0) (h1 : 0 ≤ x1) (h2 : 0 ≤ x2) (h3 : 0 ≤ x3) (h4 : 0 ≤ x4) (h5 : 0 ≤ x5) (h6 : 0 ≤ x6) : r_refSeal_7 x0 x1 x2 x3 x4 x5 x6 = (sealN (words7 x0 x1 x2 x3 x4 x5 x6) : Nat) := by
  show (bif ok_refSum 56 (rowsF (sealRows x0 x1 x2 x3 x4 x5 x6)) then bits BinOp.or IntKind.u64 (IntKind.wrap IntKind.u64 (r_refSum_0 56 (rowsF (sealRows x0 x1 x2 x3 x4 x5 x6)))) 4294967296 else 0) = _
  rw [rsum_ok, cond_true, (refSum_eq (rowsF (sealRows x0 x1 x2 x3 x4 x5 x6)) (by decide)).2, sum_seal (fun _ h => refStep_nat h) h0 h1 h2 h3 h4 h5 h6]
  have := crcN_lt (x := 0) (m := 56) (b := byteOf (words7 x0 x1 x2 x3 x4 x5 x6)) (fun j _ => byteOf_lt _ j) (by decide)
  rw [wrap_u64 (by omega) (by omega)]
  have e := u64_or_nat (crcN 0 56 (byteOf (words7 x0 x1 x2 x3 x4 x5 x6))) 4294967296 (by omega) (by decide)
  rw [Nat.or_comm, or_mark this] at e
  exact e
end Go.Proofs.Ythpcjcdiaifoiaa.G
end

/-
  What functions of the seat compute, printed by a program from the explorer.
-/
section
namespace Go.Proofs.Ythpcjcdiaifoiaa.G
open Go Go.AM Go.Proofs
/-! ### scan1 -/

noncomputable def ish_scan1 : FSh := ⟨[.v false [.k (.n .i64)], .v true [.k (.n .i64), .k (.n .i64), .k (.n .i64), .k (.n .u64)], .v false [.k .b], .v false [.p 0 0]], [.cells [.sw 1 4], .rows [.n .i64, .n .i64, .n .i64, .n .u64] true]⟩
noncomputable def osh_scan1 : FSh := ⟨[.v false [.k .b]], [.cells [.sw 2 4], .no, .rows [.n .i64, .n .i64, .n .i64, .n .u64] true]⟩
noncomputable def T_scan1 (x0 : Int) (x1 : Int) (x2 : Int) (x3 : Int) (x4 : Int) (x5 : Bool) (n6 : Nat) (g6 : Nat → Nat → Int) : Tr (List At) :=
 .br 8 (x5)
 (.br 12 (Decidable.decide (n6 + (1 : Nat) ≤ (1073741824 : Nat)))
 (.ok [(.b (Bool.true)), (.r (n6 + (1 : Nat)) (Go.AM.appG g6 n6 (Go.AM.rowsF [[x1, x2, x3, x4]])))])
 (.no))
 (.ok [(.b (Bool.true)), (.r (n6) (g6))])
noncomputable def y_scan1 : Nat → Option Nat := (syOf3 [8, 12] [] [])
noncomputable def TL_scan1 (l : List At) : Tr (List At) := T_scan1 (aI l 0) (aI l 1) (aI l 2) (aI l 3) (aI l 4) (aB l 5) (aRn l 6) (aRg l 6)
theorem e_scan1 (l : List At) : (call Try.prog Γ_R1 y_scan1 noLoops 100 Try.f42 (mkV ish_scan1 l) (mkH ish_scan1 l)).bind (leafO 2 osh_scan1) = TL_scan1 l := by kernel_rfl
noncomputable def F_scan1 : List At → Tr (List At) := TL_scan1
theorem s_scan1 : SpecF Try.prog 42 (.eff (locF ish_scan1 osh_scan1 F_scan1)) :=
  spec_loc (sy := y_scan1) (fuel := 100) (Lp := noLoops) o_R1 mixed ⟨Try.func42, by kernel_rfl, by kernel_rfl⟩ ish_scan1 osh_scan1 (noLoops_ok _) (hT_ways e_scan1)
noncomputable def Γ_scan1 : Specs := upd Γ_R1 42 (.eff (locF ish_scan1 osh_scan1 F_scan1))
theorem o_scan1 : SpecOK Try.prog Γ_scan1 := SpecOK.upd o_R1 s_scan1

/-! ### free1 -/

noncomputable def ish_free1 : FSh := ⟨[.v false [.k (.n .i64)], .v true [.k (.n .i64), .k (.n .i64), .k (.n .i64), .k (.n .u64)], .v false [.k .b], .v false [.p 0 0], .v false [.p 1 0]], [.cells [.k (.n .i64)], .cells [.k (.n .i64)]]⟩
noncomputable def osh_free1 : FSh := ⟨[.v false [.k .b]], [.cells [.k (.n .i64)], .cells [.k (.n .i64)]]⟩
noncomputable def T_free1 (x0 : Int) (x1 : Int) (x2 : Int) (x3 : Int) (x4 : Int) (x5 : Bool) (x6 : Int) (x7 : Int) : Tr (List At) :=
 .br 11 (!x5)
 (.ok [(.b (x0 == (0 : Int))), (.i (x6)), (.i (x0))])
 (.br 16 (Decidable.decide (x1 ≤ x6))
 (.ok [(.b (x0 == (0 : Int))), (.i (x6)), (.i (x0))])
 (.ok [(.b (x7 == (0 : Int))), (.i (x6)), (.i (x7))]))
noncomputable def y_free1 : Nat → Option Nat := (syOf3 [11, 16] [] [])
noncomputable def TL_free1 (l : List At) : Tr (List At) := T_free1 (aI l 0) (aI l 1) (aI l 2) (aI l 3) (aI l 4) (aB l 5) (aI l 6) (aI l 7)
theorem e_free1 (l : List At) : (call Try.prog Γ_scan1 y_free1 noLoops 100 Try.f54 (mkV ish_free1 l) (mkH ish_free1 l)).bind (leafO 2 osh_free1) = TL_free1 l := by kernel_rfl
noncomputable def F_free1 : List At → Tr (List At) := TL_free1
theorem s_free1 : SpecF Try.prog 54 (.eff (locF ish_free1 osh_free1 F_free1)) :=
  spec_loc (sy := y_free1) (fuel := 100) (Lp := noLoops) o_scan1 mixed ⟨Try.func54, by kernel_rfl, by kernel_rfl⟩ ish_free1 osh_free1 (noLoops_ok _) (hT_ways e_free1)
noncomputable def Γ_free1 : Specs := upd Γ_scan1 54 (.eff (locF ish_free1 osh_free1 F_free1))
theorem o_free1 : SpecOK Try.prog Γ_free1 := SpecOK.upd o_scan1 s_free1

/-! ### scan2 -/

noncomputable def ish_scan2 : FSh := ⟨[.v true [.k (.n .i64), .k (.n .i64), .k (.n .i64), .k (.n .u64)], .v true [.k (.n .i64), .k (.n .i64), .k (.n .i64), .k (.n .u64)]], []⟩
noncomputable def osh_scan2 : FSh := ⟨[.v false [.k (.n .i64)]], []⟩
noncomputable def T_scan2 (x0 : Int) (x1 : Int) (x2 : Int) (x3 : Int) (x4 : Int) (x5 : Int) (x6 : Int) (x7 : Int) : Tr (List At) :=
 .ok [(.i (Go.Proofs.Ythpcjcdiaifoiaa.G.r_cmpI_0 x0 x4))]
noncomputable def y_scan2 : Nat → Option Nat := (syOf3 [] [] [])
noncomputable def TL_scan2 (l : List At) : Tr (List At) := T_scan2 (aI l 0) (aI l 1) (aI l 2) (aI l 3) (aI l 4) (aI l 5) (aI l 6) (aI l 7)
theorem e_scan2 (l : List At) : (call Try.prog Γ_free1 y_scan2 noLoops 100 Try.f44 (mkV ish_scan2 l) (mkH ish_scan2 l)).bind (leafO 0 osh_scan2) = TL_scan2 l := by kernel_rfl
noncomputable def F_scan2 : List At → Tr (List At) := TL_scan2
theorem s_scan2 : SpecF Try.prog 44 (.eff (locF ish_scan2 osh_scan2 F_scan2)) :=
  spec_loc (sy := y_scan2) (fuel := 100) (Lp := noLoops) o_free1 mixed ⟨Try.func44, by kernel_rfl, by kernel_rfl⟩ ish_scan2 osh_scan2 (noLoops_ok _) (hT_ways e_scan2)
noncomputable def Γ_scan2 : Specs := upd Γ_free1 44 (.eff (locF ish_scan2 osh_scan2 F_scan2))
theorem o_scan2 : SpecOK Try.prog Γ_scan2 := SpecOK.upd o_free1 s_scan2

end Go.Proofs.Ythpcjcdiaifoiaa.G
end

/-
  What functions of the seat compute, printed by a program from the explorer.
-/
section
namespace Go.Proofs.Ythpcjcdiaifoiaa.G
open Go Go.AM Go.Proofs
/-! ### the loop at 2 of eachF -/

noncomputable def lsh_eachF_2 : FSh := ⟨[.v false [.p 0 0], .any, .v false [.k (.n .i64)], .v false [.fn 54 [(1, 0), (2, 0)]], .any, .any, .any, .any, .any, .v false [.k (.n .i64)], .any, .any, .any, .any, .any, .any, .any, .any, .any, .any, .any, .any, .any, .any, .any, .any, .any, .any, .any, .any, .any, .any, .any, .any, .any, .any, .any, .any, .any, .any], [.roc [.sw 3 25, .k .b, .k .b, .k (.n .i64), .k (.n .i64)], .cells [.k (.n .i64)], .cells [.k (.n .i64)], .nrows [.n .u64, .n .u64, .n .u64, .n .u64, .n .u64, .n .u64, .n .u64, .n .u64, .n .u64, .n .u64, .n .u64, .n .u64, .n .u64, .n .u64, .n .u64, .n .u64, .n .i64, .n .i64, .n .i64, .n .i64, .n .i64, .n .i64, .n .i64, .n .i64, .n .i64] 16 [.n .i64, .n .u64] 4 false false, .no]⟩
noncomputable def xsh_eachF_2_0 : FSh := ⟨[.any, .any, .any, .any, .any, .any, .any, .any, .any, .any, .any, .any, .any, .any, .any, .any, .any, .any, .any, .any, .any, .any, .any, .any, .any, .any, .any, .any, .any, .any, .any, .any, .any, .any, .any, .any, .any, .any, .any, .any], [.no, .cells [.k (.n .i64)], .cells [.k (.n .i64)], .no, .no]⟩
noncomputable def xsh_eachF_2_1 : FSh := ⟨[.any, .any, .any, .any, .any, .any, .any, .any, .v false [.k (.n .i64)], .any, .any, .any, .any, .any, .any, .any, .any, .any, .any, .any, .any, .any, .any, .any, .any, .any, .any, .any, .any, .any, .any, .any, .any, .any, .any, .any, .any, .any, .any, .any], [.no, .cells [.k (.n .i64)], .cells [.k (.n .i64)], .no, .no]⟩
noncomputable def xs_eachF_2 : Exs := fun e => match e with
  | .normal => some lsh_eachF_2
  | .exit n => (match Nat.beq n 0 with | true => some xsh_eachF_2_0 | false => none)
  | .ret => some xsh_eachF_2_1
noncomputable def eachF_2_c40 (x1 : Int) (x2 : Bool) (x3 : Bool) (x4 : Int) (x5 : Int) (x6 : Int) (n8 : Nat) (g8 : Nat → Nat → Int) (h8 : Nat → Nat → Int) : Bool := Decidable.decide (Go.Proofs.Ythpcjcdiaifoiaa.G.r_lRead_0 (Go.Proofs.Ythpcjcdiaifoiaa.G.Mem.ldW { n := n8, g := g8, h := h8, off := x2, burns := x3, left := x4, steps := x5 } x1 (0 : Nat)) (Go.Proofs.Ythpcjcdiaifoiaa.G.Mem.ldW { n := n8, g := g8, h := h8, off := x2, burns := x3, left := x4, steps := x5 } x1 (1 : Nat)) (Go.Proofs.Ythpcjcdiaifoiaa.G.Mem.ldW { n := n8, g := g8, h := h8, off := x2, burns := x3, left := x4, steps := x5 } x1 (2 : Nat)) (Go.Proofs.Ythpcjcdiaifoiaa.G.Mem.ldW { n := n8, g := g8, h := h8, off := x2, burns := x3, left := x4, steps := x5 } x1 (3 : Nat)) (Go.Proofs.Ythpcjcdiaifoiaa.G.Mem.ldW { n := n8, g := g8, h := h8, off := x2, burns := x3, left := x4, steps := x5 } x1 (4 : Nat)) (Go.Proofs.Ythpcjcdiaifoiaa.G.Mem.ldW { n := n8, g := g8, h := h8, off := x2, burns := x3, left := x4, steps := x5 } x1 (5 : Nat)) (Go.Proofs.Ythpcjcdiaifoiaa.G.Mem.ldW { n := n8, g := g8, h := h8, off := x2, burns := x3, left := x4, steps := x5 } x1 (6 : Nat)) (Go.Proofs.Ythpcjcdiaifoiaa.G.Mem.ldW { n := n8, g := g8, h := h8, off := x2, burns := x3, left := x4, steps := x5 } x1 (7 : Nat)) ≤ x6)
noncomputable def B_eachF_2 (x0 : Int) (x1 : Int) (x2 : Bool) (x3 : Bool) (x4 : Int) (x5 : Int) (x6 : Int) (x7 : Int) (n8 : Nat) (g8 : Nat → Nat → Int) (h8 : Nat → Nat → Int) : Tr (Ex × List At) :=
 .br 17 (Decidable.decide (x1 < x0))
 (.br 27 (Go.Proofs.Ythpcjcdiaifoiaa.G.Mem.ldC { n := n8, g := g8, h := h8, off := x2, burns := x3, left := x4, steps := x5 } x1 != (0 : Int))
 (.ok (.ret, [(.i (Go.Proofs.Ythpcjcdiaifoiaa.G.Mem.ldC { n := n8, g := g8, h := h8, off := x2, burns := x3, left := x4, steps := x5 } x1)), (.i (x6)), (.i (x7))]))
 (.br 0 (Go.Proofs.Ythpcjcdiaifoiaa.G.ok_lRead (Go.Proofs.Ythpcjcdiaifoiaa.G.Mem.ldW { n := n8, g := g8, h := h8, off := x2, burns := x3, left := x4, steps := x5 } x1 (0 : Nat)) (Go.Proofs.Ythpcjcdiaifoiaa.G.Mem.ldW { n := n8, g := g8, h := h8, off := x2, burns := x3, left := x4, steps := x5 } x1 (1 : Nat)) (Go.Proofs.Ythpcjcdiaifoiaa.G.Mem.ldW { n := n8, g := g8, h := h8, off := x2, burns := x3, left := x4, steps := x5 } x1 (2 : Nat)) (Go.Proofs.Ythpcjcdiaifoiaa.G.Mem.ldW { n := n8, g := g8, h := h8, off := x2, burns := x3, left := x4, steps := x5 } x1 (3 : Nat)) (Go.Proofs.Ythpcjcdiaifoiaa.G.Mem.ldW { n := n8, g := g8, h := h8, off := x2, burns := x3, left := x4, steps := x5 } x1 (4 : Nat)) (Go.Proofs.Ythpcjcdiaifoiaa.G.Mem.ldW { n := n8, g := g8, h := h8, off := x2, burns := x3, left := x4, steps := x5 } x1 (5 : Nat)) (Go.Proofs.Ythpcjcdiaifoiaa.G.Mem.ldW { n := n8, g := g8, h := h8, off := x2, burns := x3, left := x4, steps := x5 } x1 (6 : Nat)) (Go.Proofs.Ythpcjcdiaifoiaa.G.Mem.ldW { n := n8, g := g8, h := h8, off := x2, burns := x3, left := x4, steps := x5 } x1 (7 : Nat)))
 (.br 11 (!Go.Proofs.Ythpcjcdiaifoiaa.G.r_lRead_4 (Go.Proofs.Ythpcjcdiaifoiaa.G.Mem.ldW { n := n8, g := g8, h := h8, off := x2, burns := x3, left := x4, steps := x5 } x1 (0 : Nat)) (Go.Proofs.Ythpcjcdiaifoiaa.G.Mem.ldW { n := n8, g := g8, h := h8, off := x2, burns := x3, left := x4, steps := x5 } x1 (1 : Nat)) (Go.Proofs.Ythpcjcdiaifoiaa.G.Mem.ldW { n := n8, g := g8, h := h8, off := x2, burns := x3, left := x4, steps := x5 } x1 (2 : Nat)) (Go.Proofs.Ythpcjcdiaifoiaa.G.Mem.ldW { n := n8, g := g8, h := h8, off := x2, burns := x3, left := x4, steps := x5 } x1 (3 : Nat)) (Go.Proofs.Ythpcjcdiaifoiaa.G.Mem.ldW { n := n8, g := g8, h := h8, off := x2, burns := x3, left := x4, steps := x5 } x1 (4 : Nat)) (Go.Proofs.Ythpcjcdiaifoiaa.G.Mem.ldW { n := n8, g := g8, h := h8, off := x2, burns := x3, left := x4, steps := x5 } x1 (5 : Nat)) (Go.Proofs.Ythpcjcdiaifoiaa.G.Mem.ldW { n := n8, g := g8, h := h8, off := x2, burns := x3, left := x4, steps := x5 } x1 (6 : Nat)) (Go.Proofs.Ythpcjcdiaifoiaa.G.Mem.ldW { n := n8, g := g8, h := h8, off := x2, burns := x3, left := x4, steps := x5 } x1 (7 : Nat)))
 (.br 39 (!x1 == (0 : Int))
 (.ok (.ret, [(.i ((0 : Int))), (.i (x6)), (.i (x1))]))
 (.ok (.normal, [(.i (x0)), (.i (Go.IntKind.wrap Go.IntKind.i64 (x1 + (1 : Int)))), (.b (x2)), (.b (x3)), (.i (x4)), (.i (x5)), (.i (x6)), (.i (x1)), (.q (n8) (g8) ((16 : Nat)) ((2 : Nat)) (h8))])))
 (.br 16 ((eachF_2_c40 x1 x2 x3 x4 x5 x6 n8 g8 h8))
 (.br 39 (!x1 == (0 : Int))
 (.ok (.ret, [(.i ((0 : Int))), (.i (x6)), (.i (x1))]))
 (.ok (.normal, [(.i (x0)), (.i (Go.IntKind.wrap Go.IntKind.i64 (x1 + (1 : Int)))), (.b (x2)), (.b (x3)), (.i (x4)), (.i (x5)), (.i (x6)), (.i (x1)), (.q (n8) (g8) ((16 : Nat)) ((2 : Nat)) (h8))])))
 (.br 39 (!x7 == (0 : Int))
 (.ok (.ret, [(.i ((0 : Int))), (.i (x6)), (.i (x7))]))
 (.ok (.normal, [(.i (x0)), (.i (Go.IntKind.wrap Go.IntKind.i64 (x1 + (1 : Int)))), (.b (x2)), (.b (x3)), (.i (x4)), (.i (x5)), (.i (x6)), (.i (x7)), (.q (n8) (g8) ((16 : Nat)) ((2 : Nat)) (h8))])))))
 (.no)))
 (.ok (.exit 0, [(.i (x6)), (.i (x7))]))
noncomputable def y_eachF_2 : Nat → Option Nat := (syOf3 [17, 27, 11, 39, 16] [] [])
noncomputable def BL_eachF_2 (l : List At) : Tr (Ex × List At) := B_eachF_2 (aI l 0) (aI l 1) (aB l 2) (aB l 3) (aI l 4) (aI l 5) (aI l 6) (aI l 7) (aRn l 8) (aRg l 8) (aMh l 8 16 2)
theorem eB_eachF_2 (l : List At) : (exec Try.prog Γ_scan2 y_eachF_2 noLoops 100 (loopAt Try.f41 2) ⟨mkV lsh_eachF_2 l, mkH lsh_eachF_2 l⟩).bind (leafL 5 xs_eachF_2) = BL_eachF_2 l := by kernel_rfl
/- by hand: O_eachF_2 (x0 : Int) (x1 : Int) (x2 : Bool) (x3 : Bool) (x4 : Int) (x5 : Int) (x6 : Int) (x7 : Int) (n8 : Nat) (g8 : Nat → Nat → Int) (h8 : Nat → Nat → Int) : Tr (Ex × List At); OL_eachF_2 (l) := O_eachF_2 (aI l 0) (aI l 1) (aB l 2) (aB l 3) (aI l 4) (aI l 5) (aI l 6) (aI l 7) (aRn l 8) (aRg l 8) (aMh l 8 16 2); μ_eachF_2 : List At → Nat; rd_eachF_2 : ∀ l r, (OL_eachF_2 l).val = some r → RoundA BL_eachF_2 OL_eachF_2 μ_eachF_2 l r -/

/-! ### the loop at 2 of eachS -/

noncomputable def lsh_eachS_2 : FSh := ⟨[.v false [.p 0 0], .any, .v false [.k (.n .i64)], .v false [.fn 42 [(1, 0)]], .any, .any, .any, .any, .any, .v false [.k (.n .i64)], .any, .any, .any, .any, .any, .any, .any, .any, .any, .any, .any, .any, .any, .any, .any, .any, .any, .any, .any, .any, .any, .any, .any, .any, .any, .any, .any, .any, .any, .any], [.roc [.sw 2 25, .k .b, .k .b, .k (.n .i64), .k (.n .i64)], .cells [.sw 5 4], .nrows [.n .u64, .n .u64, .n .u64, .n .u64, .n .u64, .n .u64, .n .u64, .n .u64, .n .u64, .n .u64, .n .u64, .n .u64, .n .u64, .n .u64, .n .u64, .n .u64, .n .i64, .n .i64, .n .i64, .n .i64, .n .i64, .n .i64, .n .i64, .n .i64, .n .i64] 16 [.n .i64, .n .u64] 4 false false, .no, .no, .rows [.n .i64, .n .i64, .n .i64, .n .u64] true]⟩
noncomputable def xsh_eachS_2_0 : FSh := ⟨[.any, .any, .any, .any, .any, .any, .any, .any, .any, .any, .any, .any, .any, .any, .any, .any, .any, .any, .any, .any, .any, .any, .any, .any, .any, .any, .any, .any, .any, .any, .any, .any, .any, .any, .any, .any, .any, .any, .any, .any], [.no, .cells [.sw 5 4], .no, .no, .no, .rows [.n .i64, .n .i64, .n .i64, .n .u64] true]⟩
noncomputable def xsh_eachS_2_1 : FSh := ⟨[.any, .any, .any, .any, .any, .any, .any, .any, .v false [.k (.n .i64)], .any, .any, .any, .any, .any, .any, .any, .any, .any, .any, .any, .any, .any, .any, .any, .any, .any, .any, .any, .any, .any, .any, .any, .any, .any, .any, .any, .any, .any, .any, .any], [.no, .cells [.sw 5 4], .no, .no, .no, .rows [.n .i64, .n .i64, .n .i64, .n .u64] true]⟩
noncomputable def xs_eachS_2 : Exs := fun e => match e with
  | .normal => some lsh_eachS_2
  | .exit n => (match Nat.beq n 0 with | true => some xsh_eachS_2_0 | false => none)
  | .ret => some xsh_eachS_2_1
noncomputable def eachS_2_c0 (x1 : Int) (x2 : Bool) (x3 : Bool) (x4 : Int) (x5 : Int) (n6 : Nat) (g6 : Nat → Nat → Int) (h6 : Nat → Nat → Int) : List Int := [Go.Proofs.Ythpcjcdiaifoiaa.G.r_lRead_1 (Go.Proofs.Ythpcjcdiaifoiaa.G.Mem.ldW { n := n6, g := g6, h := h6, off := x2, burns := x3, left := x4, steps := x5 } x1 (0 : Nat)) (Go.Proofs.Ythpcjcdiaifoiaa.G.Mem.ldW { n := n6, g := g6, h := h6, off := x2, burns := x3, left := x4, steps := x5 } x1 (1 : Nat)) (Go.Proofs.Ythpcjcdiaifoiaa.G.Mem.ldW { n := n6, g := g6, h := h6, off := x2, burns := x3, left := x4, steps := x5 } x1 (2 : Nat)) (Go.Proofs.Ythpcjcdiaifoiaa.G.Mem.ldW { n := n6, g := g6, h := h6, off := x2, burns := x3, left := x4, steps := x5 } x1 (3 : Nat)) (Go.Proofs.Ythpcjcdiaifoiaa.G.Mem.ldW { n := n6, g := g6, h := h6, off := x2, burns := x3, left := x4, steps := x5 } x1 (4 : Nat)) (Go.Proofs.Ythpcjcdiaifoiaa.G.Mem.ldW { n := n6, g := g6, h := h6, off := x2, burns := x3, left := x4, steps := x5 } x1 (5 : Nat)) (Go.Proofs.Ythpcjcdiaifoiaa.G.Mem.ldW { n := n6, g := g6, h := h6, off := x2, burns := x3, left := x4, steps := x5 } x1 (6 : Nat)) (Go.Proofs.Ythpcjcdiaifoiaa.G.Mem.ldW { n := n6, g := g6, h := h6, off := x2, burns := x3, left := x4, steps := x5 } x1 (7 : Nat)), Go.Proofs.Ythpcjcdiaifoiaa.G.r_lRead_2 (Go.Proofs.Ythpcjcdiaifoiaa.G.Mem.ldW { n := n6, g := g6, h := h6, off := x2, burns := x3, left := x4, steps := x5 } x1 (0 : Nat)) (Go.Proofs.Ythpcjcdiaifoiaa.G.Mem.ldW { n := n6, g := g6, h := h6, off := x2, burns := x3, left := x4, steps := x5 } x1 (1 : Nat)) (Go.Proofs.Ythpcjcdiaifoiaa.G.Mem.ldW { n := n6, g := g6, h := h6, off := x2, burns := x3, left := x4, steps := x5 } x1 (2 : Nat)) (Go.Proofs.Ythpcjcdiaifoiaa.G.Mem.ldW { n := n6, g := g6, h := h6, off := x2, burns := x3, left := x4, steps := x5 } x1 (3 : Nat)) (Go.Proofs.Ythpcjcdiaifoiaa.G.Mem.ldW { n := n6, g := g6, h := h6, off := x2, burns := x3, left := x4, steps := x5 } x1 (4 : Nat)) (Go.Proofs.Ythpcjcdiaifoiaa.G.Mem.ldW { n := n6, g := g6, h := h6, off := x2, burns := x3, left := x4, steps := x5 } x1 (5 : Nat)) (Go.Proofs.Ythpcjcdiaifoiaa.G.Mem.ldW { n := n6, g := g6, h := h6, off := x2, burns := x3, left := x4, steps := x5 } x1 (6 : Nat)) (Go.Proofs.Ythpcjcdiaifoiaa.G.Mem.ldW { n := n6, g := g6, h := h6, off := x2, burns := x3, left := x4, steps := x5 } x1 (7 : Nat)), Go.Proofs.Ythpcjcdiaifoiaa.G.r_lRead_3 (Go.Proofs.Ythpcjcdiaifoiaa.G.Mem.ldW { n := n6, g := g6, h := h6, off := x2, burns := x3, left := x4, steps := x5 } x1 (0 : Nat)) (Go.Proofs.Ythpcjcdiaifoiaa.G.Mem.ldW { n := n6, g := g6, h := h6, off := x2, burns := x3, left := x4, steps := x5 } x1 (1 : Nat)) (Go.Proofs.Ythpcjcdiaifoiaa.G.Mem.ldW { n := n6, g := g6, h := h6, off := x2, burns := x3, left := x4, steps := x5 } x1 (2 : Nat)) (Go.Proofs.Ythpcjcdiaifoiaa.G.Mem.ldW { n := n6, g := g6, h := h6, off := x2, burns := x3, left := x4, steps := x5 } x1 (3 : Nat)) (Go.Proofs.Ythpcjcdiaifoiaa.G.Mem.ldW { n := n6, g := g6, h := h6, off := x2, burns := x3, left := x4, steps := x5 } x1 (4 : Nat)) (Go.Proofs.Ythpcjcdiaifoiaa.G.Mem.ldW { n := n6, g := g6, h := h6, off := x2, burns := x3, left := x4, steps := x5 } x1 (5 : Nat)) (Go.Proofs.Ythpcjcdiaifoiaa.G.Mem.ldW { n := n6, g := g6, h := h6, off := x2, burns := x3, left := x4, steps := x5 } x1 (6 : Nat)) (Go.Proofs.Ythpcjcdiaifoiaa.G.Mem.ldW { n := n6, g := g6, h := h6, off := x2, burns := x3, left := x4, steps := x5 } x1 (7 : Nat))]
noncomputable def eachS_2_c1 (x1 : Int) (x2 : Bool) (x3 : Bool) (x4 : Int) (x5 : Int) (n6 : Nat) (g6 : Nat → Nat → Int) (h6 : Nat → Nat → Int) : List Int := Go.Proofs.Ythpcjcdiaifoiaa.G.r_lRead_0 (Go.Proofs.Ythpcjcdiaifoiaa.G.Mem.ldW { n := n6, g := g6, h := h6, off := x2, burns := x3, left := x4, steps := x5 } x1 (0 : Nat)) (Go.Proofs.Ythpcjcdiaifoiaa.G.Mem.ldW { n := n6, g := g6, h := h6, off := x2, burns := x3, left := x4, steps := x5 } x1 (1 : Nat)) (Go.Proofs.Ythpcjcdiaifoiaa.G.Mem.ldW { n := n6, g := g6, h := h6, off := x2, burns := x3, left := x4, steps := x5 } x1 (2 : Nat)) (Go.Proofs.Ythpcjcdiaifoiaa.G.Mem.ldW { n := n6, g := g6, h := h6, off := x2, burns := x3, left := x4, steps := x5 } x1 (3 : Nat)) (Go.Proofs.Ythpcjcdiaifoiaa.G.Mem.ldW { n := n6, g := g6, h := h6, off := x2, burns := x3, left := x4, steps := x5 } x1 (4 : Nat)) (Go.Proofs.Ythpcjcdiaifoiaa.G.Mem.ldW { n := n6, g := g6, h := h6, off := x2, burns := x3, left := x4, steps := x5 } x1 (5 : Nat)) (Go.Proofs.Ythpcjcdiaifoiaa.G.Mem.ldW { n := n6, g := g6, h := h6, off := x2, burns := x3, left := x4, steps := x5 } x1 (6 : Nat)) (Go.Proofs.Ythpcjcdiaifoiaa.G.Mem.ldW { n := n6, g := g6, h := h6, off := x2, burns := x3, left := x4, steps := x5 } x1 (7 : Nat)) :: (eachS_2_c0 x1 x2 x3 x4 x5 n6 g6 h6)
noncomputable def eachS_2_c2 (x1 : Int) (x2 : Bool) (x3 : Bool) (x4 : Int) (x5 : Int) (n6 : Nat) (g6 : Nat → Nat → Int) (h6 : Nat → Nat → Int) : List (List Int) := [(eachS_2_c1 x1 x2 x3 x4 x5 n6 g6 h6)]
noncomputable def eachS_2_c43 (n7 : Nat) : Bool := Decidable.decide (n7 + (1 : Nat) ≤ (1073741824 : Nat))
noncomputable def B_eachS_2 (x0 : Int) (x1 : Int) (x2 : Bool) (x3 : Bool) (x4 : Int) (x5 : Int) (n6 : Nat) (g6 : Nat → Nat → Int) (h6 : Nat → Nat → Int) (n7 : Nat) (g7 : Nat → Nat → Int) : Tr (Ex × List At) :=
 .br 17 (Decidable.decide (x1 < x0))
 (.br 27 (Go.Proofs.Ythpcjcdiaifoiaa.G.Mem.ldC { n := n6, g := g6, h := h6, off := x2, burns := x3, left := x4, steps := x5 } x1 != (0 : Int))
 (.ok (.ret, [(.i (Go.Proofs.Ythpcjcdiaifoiaa.G.Mem.ldC { n := n6, g := g6, h := h6, off := x2, burns := x3, left := x4, steps := x5 } x1)), (.r (n7) (g7))]))
 (.br 0 (Go.Proofs.Ythpcjcdiaifoiaa.G.ok_lRead (Go.Proofs.Ythpcjcdiaifoiaa.G.Mem.ldW { n := n6, g := g6, h := h6, off := x2, burns := x3, left := x4, steps := x5 } x1 (0 : Nat)) (Go.Proofs.Ythpcjcdiaifoiaa.G.Mem.ldW { n := n6, g := g6, h := h6, off := x2, burns := x3, left := x4, steps := x5 } x1 (1 : Nat)) (Go.Proofs.Ythpcjcdiaifoiaa.G.Mem.ldW { n := n6, g := g6, h := h6, off := x2, burns := x3, left := x4, steps := x5 } x1 (2 : Nat)) (Go.Proofs.Ythpcjcdiaifoiaa.G.Mem.ldW { n := n6, g := g6, h := h6, off := x2, burns := x3, left := x4, steps := x5 } x1 (3 : Nat)) (Go.Proofs.Ythpcjcdiaifoiaa.G.Mem.ldW { n := n6, g := g6, h := h6, off := x2, burns := x3, left := x4, steps := x5 } x1 (4 : Nat)) (Go.Proofs.Ythpcjcdiaifoiaa.G.Mem.ldW { n := n6, g := g6, h := h6, off := x2, burns := x3, left := x4, steps := x5 } x1 (5 : Nat)) (Go.Proofs.Ythpcjcdiaifoiaa.G.Mem.ldW { n := n6, g := g6, h := h6, off := x2, burns := x3, left := x4, steps := x5 } x1 (6 : Nat)) (Go.Proofs.Ythpcjcdiaifoiaa.G.Mem.ldW { n := n6, g := g6, h := h6, off := x2, burns := x3, left := x4, steps := x5 } x1 (7 : Nat)))
 (.br 8 (Go.Proofs.Ythpcjcdiaifoiaa.G.r_lRead_4 (Go.Proofs.Ythpcjcdiaifoiaa.G.Mem.ldW { n := n6, g := g6, h := h6, off := x2, burns := x3, left := x4, steps := x5 } x1 (0 : Nat)) (Go.Proofs.Ythpcjcdiaifoiaa.G.Mem.ldW { n := n6, g := g6, h := h6, off := x2, burns := x3, left := x4, steps := x5 } x1 (1 : Nat)) (Go.Proofs.Ythpcjcdiaifoiaa.G.Mem.ldW { n := n6, g := g6, h := h6, off := x2, burns := x3, left := x4, steps := x5 } x1 (2 : Nat)) (Go.Proofs.Ythpcjcdiaifoiaa.G.Mem.ldW { n := n6, g := g6, h := h6, off := x2, burns := x3, left := x4, steps := x5 } x1 (3 : Nat)) (Go.Proofs.Ythpcjcdiaifoiaa.G.Mem.ldW { n := n6, g := g6, h := h6, off := x2, burns := x3, left := x4, steps := x5 } x1 (4 : Nat)) (Go.Proofs.Ythpcjcdiaifoiaa.G.Mem.ldW { n := n6, g := g6, h := h6, off := x2, burns := x3, left := x4, steps := x5 } x1 (5 : Nat)) (Go.Proofs.Ythpcjcdiaifoiaa.G.Mem.ldW { n := n6, g := g6, h := h6, off := x2, burns := x3, left := x4, steps := x5 } x1 (6 : Nat)) (Go.Proofs.Ythpcjcdiaifoiaa.G.Mem.ldW { n := n6, g := g6, h := h6, off := x2, burns := x3, left := x4, steps := x5 } x1 (7 : Nat)))
 (.br 12 ((eachS_2_c43 n7))
 (.ok (.normal, [(.i (x0)), (.i (Go.IntKind.wrap Go.IntKind.i64 (x1 + (1 : Int)))), (.b (x2)), (.b (x3)), (.i (x4)), (.i (x5)), (.q (n6) (g6) ((16 : Nat)) ((2 : Nat)) (h6)), (.r (n7 + (1 : Nat)) (Go.AM.appG g7 n7 (Go.AM.rowsF (eachS_2_c2 x1 x2 x3 x4 x5 n6 g6 h6))))]))
 (.no))
 (.ok (.normal, [(.i (x0)), (.i (Go.IntKind.wrap Go.IntKind.i64 (x1 + (1 : Int)))), (.b (x2)), (.b (x3)), (.i (x4)), (.i (x5)), (.q (n6) (g6) ((16 : Nat)) ((2 : Nat)) (h6)), (.r (n7) (g7))])))
 (.no)))
 (.ok (.exit 0, [(.r (n7) (g7))]))
noncomputable def y_eachS_2 : Nat → Option Nat := (syOf3 [17, 27, 8, 12] [] [])
noncomputable def BL_eachS_2 (l : List At) : Tr (Ex × List At) := B_eachS_2 (aI l 0) (aI l 1) (aB l 2) (aB l 3) (aI l 4) (aI l 5) (aRn l 6) (aRg l 6) (aMh l 6 16 2) (aRn l 7) (aRg l 7)
theorem eB_eachS_2 (l : List At) : (exec Try.prog Γ_scan2 y_eachS_2 noLoops 100 (loopAt Try.f41 2) ⟨mkV lsh_eachS_2 l, mkH lsh_eachS_2 l⟩).bind (leafL 5 xs_eachS_2) = BL_eachS_2 l := by kernel_rfl
/- by hand: O_eachS_2 (x0 : Int) (x1 : Int) (x2 : Bool) (x3 : Bool) (x4 : Int) (x5 : Int) (n6 : Nat) (g6 : Nat → Nat → Int) (h6 : Nat → Nat → Int) (n7 : Nat) (g7 : Nat → Nat → Int) : Tr (Ex × List At); OL_eachS_2 (l) := O_eachS_2 (aI l 0) (aI l 1) (aB l 2) (aB l 3) (aI l 4) (aI l 5) (aRn l 6) (aRg l 6) (aMh l 6 16 2) (aRn l 7) (aRg l 7); μ_eachS_2 : List At → Nat; rd_eachS_2 : ∀ l r, (OL_eachS_2 l).val = some r → RoundA BL_eachS_2 OL_eachS_2 μ_eachS_2 l r -/

end Go.Proofs.Ythpcjcdiaifoiaa.G
end

/-
  What the laws of records lean on.
-/
section
namespace Go.Proofs.Ythpcjcdiaifoiaa.G
open Go Go.AM Go.Proofs

def rb (x0 x1 x2 : Int) : Bool := decide (1 ≤ x0 ∧ x0 ≤ 1099511627776 ∧ 0 ≤ x1 ∧ x1 ≤ 48 ∧ 0 ≤ x2 ∧ x2 ≤ 7)

theorem chain6 {α : Type} (a b c d e f : Bool) (z v y : α) : (bif a then z else bif b then z else bif c then z else bif d then z else bif e then z else bif f then z else bif true then v else y)
    = bif (!a && (!b && (!c && (!d && (!e && !f))))) then v else z := by
  cases a <;> cases b <;> cases c <;> cases d <;> cases e <;> cases f <;> rfl
theorem rb_s (x0 x1 x2 : Int) : (!decide (x0 < 1) && (!decide (x0 > 1099511627776) && (!decide (x1 < 0) && (!decide (x1 ≥ 49) && (!decide (x2 < 0) && !decide (x2 ≥ 8)))))) = rb x0 x1 x2 := by
  simp only [rb]
  rw [Bool.eq_iff_iff]
  simp only [Bool.and_eq_true, Bool.not_eq_true', decide_eq_true_eq, decide_eq_false_iff_not]
  omega
theorem rb_r (x0 x1 x2 : Int) : (!decide (x0 < 1) && (!decide (x0 > 1099511627776) && (!decide (x1 < 0) && (!decide (x1 ≥ 49) && (!decide (x2 < 0) && !decide (x2 > 7)))))) = rb x0 x1 x2 := by
  simp only [rb]
  rw [Bool.eq_iff_iff]
  simp only [Bool.and_eq_true, Bool.not_eq_true', decide_eq_true_eq, decide_eq_false_iff_not]
  omega
theorem wu (x : Int) : 0 ≤ IntKind.wrap IntKind.u64 x := by
  rw [wrap_u64_mod]; omega
def sealS (x0 x1 x2 x3 : Int) : Nat := sealN (words7 274726912 (IntKind.wrap IntKind.u64 x0) (IntKind.wrap IntKind.u64 x1) (IntKind.wrap IntKind.u64 x2) x3 0 0)

theorem s0 (x0 x1 x2 x3 : Int) : r_lLine_0 x0 x1 x2 x3 = bif rb x0 x1 x2 then 274726912 else 0 := by
  unfold r_lLine_0
  rw [ok_seal, chain6, rb_s, seal_0]
theorem t0 (x0 x1 x2 x3 : Int) : r_rLine_0 x0 x1 x2 x3 = r_lLine_0 x0 x1 x2 x3 := by
  rw [s0]
  unfold r_rLine_0
  rw [ok_rseal, chain6, rb_r, rseal_0]
theorem s1 (x0 x1 x2 x3 : Int) : r_lLine_1 x0 x1 x2 x3 = bif rb x0 x1 x2 then IntKind.wrap IntKind.u64 x0 else 0 := by
  unfold r_lLine_1
  rw [ok_seal, chain6, rb_s, seal_1]
theorem t1 (x0 x1 x2 x3 : Int) : r_rLine_1 x0 x1 x2 x3 = r_lLine_1 x0 x1 x2 x3 := by
  rw [s1]
  unfold r_rLine_1
  rw [ok_rseal, chain6, rb_r, rseal_1]
theorem s2 (x0 x1 x2 x3 : Int) : r_lLine_2 x0 x1 x2 x3 = bif rb x0 x1 x2 then IntKind.wrap IntKind.u64 x1 else 0 := by
  unfold r_lLine_2
  rw [ok_seal, chain6, rb_s, seal_2]
theorem t2 (x0 x1 x2 x3 : Int) : r_rLine_2 x0 x1 x2 x3 = r_lLine_2 x0 x1 x2 x3 := by
  rw [s2]
  unfold r_rLine_2
  rw [ok_rseal, chain6, rb_r, rseal_2]
theorem s3 (x0 x1 x2 x3 : Int) : r_lLine_3 x0 x1 x2 x3 = bif rb x0 x1 x2 then IntKind.wrap IntKind.u64 x2 else 0 := by
  unfold r_lLine_3
  rw [ok_seal, chain6, rb_s, seal_3]
theorem t3 (x0 x1 x2 x3 : Int) : r_rLine_3 x0 x1 x2 x3 = r_lLine_3 x0 x1 x2 x3 := by
  rw [s3]
  unfold r_rLine_3
  rw [ok_rseal, chain6, rb_r, rseal_3]
theorem s4 (x0 x1 x2 x3 : Int) : r_lLine_4 x0 x1 x2 x3 = bif rb x0 x1 x2 then x3 else 0 := by
  unfold r_lLine_4
  rw [ok_seal, chain6, rb_s, seal_4]
theorem t4 (x0 x1 x2 x3 : Int) : r_rLine_4 x0 x1 x2 x3 = r_lLine_4 x0 x1 x2 x3 := by
  rw [s4]
  unfold r_rLine_4
  rw [ok_rseal, chain6, rb_r, rseal_4]
theorem s5 (x0 x1 x2 x3 : Int) : r_lLine_5 x0 x1 x2 x3 = bif rb x0 x1 x2 then 0 else 0 := by
  unfold r_lLine_5
  rw [ok_seal, chain6, rb_s, seal_5]
theorem t5 (x0 x1 x2 x3 : Int) : r_rLine_5 x0 x1 x2 x3 = r_lLine_5 x0 x1 x2 x3 := by
  rw [s5]
  unfold r_rLine_5
  rw [ok_rseal, chain6, rb_r, rseal_5]
theorem s6 (x0 x1 x2 x3 : Int) : r_lLine_6 x0 x1 x2 x3 = bif rb x0 x1 x2 then 0 else 0 := by
  unfold r_lLine_6
  rw [ok_seal, chain6, rb_s, seal_6]
theorem t6 (x0 x1 x2 x3 : Int) : r_rLine_6 x0 x1 x2 x3 = r_lLine_6 x0 x1 x2 x3 := by
  rw [s6]
  unfold r_rLine_6
  rw [ok_rseal, chain6, rb_r, rseal_6]
theorem s7 (x0 x1 x2 x3 : Int) (h3 : 0 ≤ x3) : r_lLine_7 x0 x1 x2 x3 = bif rb x0 x1 x2 then (sealS x0 x1 x2 x3 : Int) else 0 := by
  unfold r_lLine_7
  rw [ok_seal, chain6, rb_s, (seal_7 (by decide) (wu x0) (wu x1) (wu x2) h3 (by decide) (by decide))]
  rfl
theorem t7 (x0 x1 x2 x3 : Int) (h3 : 0 ≤ x3) : r_rLine_7 x0 x1 x2 x3 = r_lLine_7 x0 x1 x2 x3 := by
  rw [s7 _ _ _ _ h3]
  unfold r_rLine_7
  rw [ok_rseal, chain6, rb_r, (rseal_7 (by decide) (wu x0) (wu x1) (wu x2) h3 (by decide) (by decide))]
  rfl
theorem s8 (x0 x1 x2 x3 : Int) : r_lLine_8 x0 x1 x2 x3 = bif rb x0 x1 x2 then 0 else 1 := by
  unfold r_lLine_8
  rw [ok_seal, chain6, rb_s]
theorem t8 (x0 x1 x2 x3 : Int) : r_rLine_8 x0 x1 x2 x3 = r_lLine_8 x0 x1 x2 x3 := by
  rw [s8]
  unfold r_rLine_8
  rw [ok_rseal, chain6, rb_r]

theorem lsk (x0 x1 x2 x3 : Int) : ok_lLine x0 x1 x2 x3 = true := by
  unfold ok_lLine
  rw [ok_seal, chain6]
  cases (_ && _) <;> rfl
theorem ltk (x0 x1 x2 x3 : Int) : ok_rLine x0 x1 x2 x3 = true := by
  unfold ok_rLine
  rw [ok_rseal, chain6]
  cases (_ && _) <;> rfl
section
variable (x0 x1 x2 x3 x4 x5 x6 x7 : Int)
theorem lrk : ok_lRead x0 x1 x2 x3 x4 x5 x6 x7 = true := by
  unfold ok_lRead
  simp only [lsk, cond_true]
  generalize (r_lLine_8 _ _ _ _ != 0) = a
  cases a
  · generalize (!(_ && _)) = b
    cases b <;> rfl
  · rfl
theorem luk (h4 : 0 ≤ x4) : ok_rRead x0 x1 x2 x3 x4 x5 x6 x7 = true := by
  have h := lrk x0 x1 x2 x3 x4 x5 x6 x7
  unfold ok_lRead at h
  unfold ok_rRead
  simp only [t0, t1, t2, t3, t4, t5, t6, t7 _ _ _ _ h4, t8, ltk, lsk] at h ⊢
  exact h

theorem u0 (h4 : 0 ≤ x4) : r_rRead_0 x0 x1 x2 x3 x4 x5 x6 x7 = r_lRead_0 x0 x1 x2 x3 x4 x5 x6 x7 := by
  unfold r_rRead_0 r_lRead_0
  simp only [t0, t1, t2, t3, t4, t5, t6, t7 _ _ _ _ h4, t8, ltk, lsk]
theorem u1 (h4 : 0 ≤ x4) : r_rRead_1 x0 x1 x2 x3 x4 x5 x6 x7 = r_lRead_1 x0 x1 x2 x3 x4 x5 x6 x7 := by
  unfold r_rRead_1 r_lRead_1
  simp only [t0, t1, t2, t3, t4, t5, t6, t7 _ _ _ _ h4, t8, ltk, lsk]
theorem u2 (h4 : 0 ≤ x4) : r_rRead_2 x0 x1 x2 x3 x4 x5 x6 x7 = r_lRead_2 x0 x1 x2 x3 x4 x5 x6 x7 := by
  unfold r_rRead_2 r_lRead_2
  simp only [t0, t1, t2, t3, t4, t5, t6, t7 _ _ _ _ h4, t8, ltk, lsk]
theorem u3 (h4 : 0 ≤ x4) : r_rRead_3 x0 x1 x2 x3 x4 x5 x6 x7 = r_lRead_3 x0 x1 x2 x3 x4 x5 x6 x7 := by
  unfold r_rRead_3 r_lRead_3
  simp only [t0, t1, t2, t3, t4, t5, t6, t7 _ _ _ _ h4, t8, ltk, lsk]
theorem u4 (h4 : 0 ≤ x4) : r_rRead_4 x0 x1 x2 x3 x4 x5 x6 x7 = r_lRead_4 x0 x1 x2 x3 x4 x5 x6 x7 := by
  unfold r_rRead_4 r_lRead_4
  simp only [t0, t1, t2, t3, t4, t5, t6, t7 _ _ _ _ h4, t8, ltk, lsk]
end

/-- What is read as a record is that one's line. -/
theorem lread_of {y0 y1 y2 y3 y4 y5 y6 y7 : Int} (h : r_lRead_4 y0 y1 y2 y3 y4 y5 y6 y7 = true) : rb (IntKind.wrap .i64 y1) (IntKind.wrap .i64 y2) (IntKind.wrap .i64 y3) = true ∧ r_lLine_0 (IntKind.wrap .i64 y1) (IntKind.wrap .i64 y2) (IntKind.wrap .i64 y3) y4 = y0 ∧ r_lLine_1 (IntKind.wrap .i64 y1) (IntKind.wrap .i64 y2) (IntKind.wrap .i64 y3) y4 = y1 ∧ r_lLine_2 (IntKind.wrap .i64 y1) (IntKind.wrap .i64 y2) (IntKind.wrap .i64 y3) y4 = y2 ∧ r_lLine_3 (IntKind.wrap .i64 y1) (IntKind.wrap .i64 y2) (IntKind.wrap .i64 y3) y4 = y3 ∧ r_lLine_4 (IntKind.wrap .i64 y1) (IntKind.wrap .i64 y2) (IntKind.wrap .i64 y3) y4 = y4 ∧ r_lLine_5 (IntKind.wrap .i64 y1) (IntKind.wrap .i64 y2) (IntKind.wrap .i64 y3) y4 = y5 ∧ r_lLine_6 (IntKind.wrap .i64 y1) (IntKind.wrap .i64 y2) (IntKind.wrap .i64 y3) y4 = y6 ∧ r_lLine_7 (IntKind.wrap .i64 y1) (IntKind.wrap .i64 y2) (IntKind.wrap .i64 y3) y4 = y7 := by
  have hz : (r_lLine_8 (IntKind.wrap .i64 y1) (IntKind.wrap .i64 y2) (IntKind.wrap .i64 y3) y4 != 0) = false ∧ (r_lLine_0 (IntKind.wrap .i64 y1) (IntKind.wrap .i64 y2) (IntKind.wrap .i64 y3) y4 = y0 ∧ r_lLine_1 (IntKind.wrap .i64 y1) (IntKind.wrap .i64 y2) (IntKind.wrap .i64 y3) y4 = y1 ∧ r_lLine_2 (IntKind.wrap .i64 y1) (IntKind.wrap .i64 y2) (IntKind.wrap .i64 y3) y4 = y2 ∧ r_lLine_3 (IntKind.wrap .i64 y1) (IntKind.wrap .i64 y2) (IntKind.wrap .i64 y3) y4 = y3 ∧ r_lLine_4 (IntKind.wrap .i64 y1) (IntKind.wrap .i64 y2) (IntKind.wrap .i64 y3) y4 = y4 ∧ r_lLine_5 (IntKind.wrap .i64 y1) (IntKind.wrap .i64 y2) (IntKind.wrap .i64 y3) y4 = y5 ∧ r_lLine_6 (IntKind.wrap .i64 y1) (IntKind.wrap .i64 y2) (IntKind.wrap .i64 y3) y4 = y6 ∧ r_lLine_7 (IntKind.wrap .i64 y1) (IntKind.wrap .i64 y2) (IntKind.wrap .i64 y3) y4 = y7) := by
    unfold r_lRead_4 at h
    simp only [lsk, cond_true] at h
    cases h8 : (r_lLine_8 (IntKind.wrap .i64 y1) (IntKind.wrap .i64 y2) (IntKind.wrap .i64 y3) y4 != 0) with
    | true => rw [h8] at h; simp at h
    | false =>
      refine ⟨rfl, ?_⟩
      rw [h8] at h
      simpa using h
  obtain ⟨h8, e⟩ := hz
  refine ⟨?_, e⟩
  cases hb : rb (IntKind.wrap .i64 y1) (IntKind.wrap .i64 y2) (IntKind.wrap .i64 y3) with
  | true => rfl
  | false => rw [s8, hb] at h8; simp at h8

theorem lread_line {x0 x1 x2 x3 : Int} (hs : rb x0 x1 x2 = true) : r_lRead_4 (r_lLine_0 x0 x1 x2 x3) (r_lLine_1 x0 x1 x2 x3) (r_lLine_2 x0 x1 x2 x3) (r_lLine_3 x0 x1 x2 x3) (r_lLine_4 x0 x1 x2 x3) (r_lLine_5 x0 x1 x2 x3) (r_lLine_6 x0 x1 x2 x3) (r_lLine_7 x0 x1 x2 x3) = true ∧ r_lRead_0 (r_lLine_0 x0 x1 x2 x3) (r_lLine_1 x0 x1 x2 x3) (r_lLine_2 x0 x1 x2 x3) (r_lLine_3 x0 x1 x2 x3) (r_lLine_4 x0 x1 x2 x3) (r_lLine_5 x0 x1 x2 x3) (r_lLine_6 x0 x1 x2 x3) (r_lLine_7 x0 x1 x2 x3) = x0 ∧ r_lRead_1 (r_lLine_0 x0 x1 x2 x3) (r_lLine_1 x0 x1 x2 x3) (r_lLine_2 x0 x1 x2 x3) (r_lLine_3 x0 x1 x2 x3) (r_lLine_4 x0 x1 x2 x3) (r_lLine_5 x0 x1 x2 x3) (r_lLine_6 x0 x1 x2 x3) (r_lLine_7 x0 x1 x2 x3) = x1 ∧ r_lRead_2 (r_lLine_0 x0 x1 x2 x3) (r_lLine_1 x0 x1 x2 x3) (r_lLine_2 x0 x1 x2 x3) (r_lLine_3 x0 x1 x2 x3) (r_lLine_4 x0 x1 x2 x3) (r_lLine_5 x0 x1 x2 x3) (r_lLine_6 x0 x1 x2 x3) (r_lLine_7 x0 x1 x2 x3) = x2 ∧ r_lRead_3 (r_lLine_0 x0 x1 x2 x3) (r_lLine_1 x0 x1 x2 x3) (r_lLine_2 x0 x1 x2 x3) (r_lLine_3 x0 x1 x2 x3) (r_lLine_4 x0 x1 x2 x3) (r_lLine_5 x0 x1 x2 x3) (r_lLine_6 x0 x1 x2 x3) (r_lLine_7 x0 x1 x2 x3) = x3 := by
  have hr := hs
  simp only [rb, decide_eq_true_eq] at hr
  have k0 : IntKind.wrap IntKind.i64 (r_lLine_1 x0 x1 x2 x3) = x0 := by
    rw [s1, hs, cond_true, wrap_u64 (by omega) (by omega), wrap_i64 (by omega) (by omega)]
  have k1 : IntKind.wrap IntKind.i64 (r_lLine_2 x0 x1 x2 x3) = x1 := by
    rw [s2, hs, cond_true, wrap_u64 (by omega) (by omega), wrap_i64 (by omega) (by omega)]
  have k2 : IntKind.wrap IntKind.i64 (r_lLine_3 x0 x1 x2 x3) = x2 := by
    rw [s3, hs, cond_true, wrap_u64 (by omega) (by omega), wrap_i64 (by omega) (by omega)]
  have k3 : r_lLine_4 x0 x1 x2 x3 = x3 := by rw [s4, hs]; rfl
  have e8 : r_lLine_8 x0 x1 x2 x3 = 0 := by rw [s8, hs]; rfl
  simp only [r_lRead_0, r_lRead_1, r_lRead_2, r_lRead_3, r_lRead_4, k0, k1, k2, k3, lsk, e8, beq_self_eq_true, cond_true]
  simp
end Go.Proofs.Ythpcjcdiaifoiaa.G
end

/-
  Records in lines, in plain words.
-/
section
namespace Go.Proofs.Ythpcjcdiaifoiaa.G
open Go Go.AM Go.Proofs

/-- Is a line a record's; and its parts. -/
def lrB (r : Nat → Int) : Bool := r_lRead_4 (r 0) (r 1) (r 2) (r 3) (r 4) (r 5) (r 6) (r 7)
def lr0 (r : Nat → Int) : Int := r_lRead_0 (r 0) (r 1) (r 2) (r 3) (r 4) (r 5) (r 6) (r 7)
def lr1 (r : Nat → Int) : Int := r_lRead_1 (r 0) (r 1) (r 2) (r 3) (r 4) (r 5) (r 6) (r 7)
def lr2 (r : Nat → Int) : Int := r_lRead_2 (r 0) (r 1) (r 2) (r 3) (r 4) (r 5) (r 6) (r 7)
def lr3 (r : Nat → Int) : Int := r_lRead_3 (r 0) (r 1) (r 2) (r 3) (r 4) (r 5) (r 6) (r 7)
def recOf (r : Nat → Int) : List Int := [lr0 r, lr1 r, lr2 r, lr3 r]
def Mem.ln (m : Mem) (i : Int) : Nat → Int := fun c => m.ldW i c

/-! ### Free -/

def frOk (m : Mem) (s i : Int) : Bool := !lrB (m.ln i) || decide (lr0 (m.ln i) ≤ s)
/-- The first of 'k' lines from the 'i'-th on that may be used: whether it ended early, the code, the line. -/
def frL (m : Mem) (s : Int) : Nat → Int → Bool × Int × Int
  | 0, _ => (false, 0, 0)
  | k + 1, i => bif m.ldC i != 0 then (true, m.ldC i, 0) else bif frOk m s i then (true, 0, i) else frL m s k (i + 1)

/-! ### Scan -/

def scC (m : Mem) : Nat → Int → Int
  | 0, _ => 0
  | k + 1, i => bif m.ldC i != 0 then m.ldC i else scC m k (i + 1)
def scR (m : Mem) : Nat → Int → List (List Int)
  | 0, _ => []
  | k + 1, i => bif m.ldC i != 0 then [] else bif lrB (m.ln i) then recOf (m.ln i) :: scR m k (i + 1) else scR m k (i + 1)
/-- Rows out of a list. -/
def lsF (l : List (List Int)) : Nat → Nat → Int := fun i c => (l.getD i []).getD c 0

theorem scR_len (m : Mem) : ∀ k i, (scR m k i).length ≤ k
  | 0, _ => Nat.le_refl _
  | k + 1, i => by
    rw [scR]
    cases m.ldC i != 0 with
    | true => simp
    | false => cases lrB (m.ln i) with
      | true => simp only [cond_false, cond_true, List.length_cons]; have := scR_len m k (i + 1); omega
      | false => simp only [cond_false]; have := scR_len m k (i + 1); omega

theorem app_nil (g : Nat → Nat → Int) (n i : Nat) (hi : i < n) (c : Nat) : appG g n (lsF []) i c = g i c := if_pos hi
theorem app_cons (g : Nat → Nat → Int) (n : Nat) (r : List Int) (l : List (List Int)) : appG (appG g n (rowsF [r])) (n + 1) (lsF l) = appG g n (lsF (r :: l)) := by
  funext i c
  unfold appG
  by_cases h1 : i < n
  · rw [if_pos (show i < n + 1 by omega), if_pos h1, if_pos h1]
  · rw [if_neg h1]
    by_cases h2 : i < n + 1
    · obtain rfl : i = n := by omega
      rw [if_pos h2, if_neg h1, Nat.sub_self]
      rfl
    · rw [if_neg h2, if_neg h1]
      unfold lsF
      rw [show i - n = (i - (n + 1)) + 1 by omega]
      rfl
end Go.Proofs.Ythpcjcdiaifoiaa.G
end

/-
  The loop of each, for Free and for Scan.
-/
section
namespace Go.Proofs.Ythpcjcdiaifoiaa.G
open Go Go.AM Go.Proofs

theorem lk (y0 y1 y2 y3 y4 y5 y6 y7 : Int) : ok_lRead y0 y1 y2 y3 y4 y5 y6 y7 = true := lrk _ _ _ _ _ _ _ _

noncomputable def T_frL (s : Int) (p : Bool × Int × Int) : Tr (Ex × List At) := .br 0 p.1 (.ok (.ret, [.i p.2.1, .i s, .i p.2.2])) (.ok (.exit 0, [.i s, .i 0]))
noncomputable def O_eachF_2 (x0 x1 : Int) (m : Mem) (x7 x8 : Int) : Tr (Ex × List At) :=
  .br 0 (pdec (x8 = 0 ∧ 1 ≤ x1 ∧ x0 ≤ 1099511627776)) (T_frL x7 (frL m x7 (x0 - x1).toNat x1)) .no
noncomputable def OL_eachF_2 (l : List At) : Tr (Ex × List At) := O_eachF_2 (aI l 0) (aI l 1) ⟨aRn l 8, aRg l 8, aMh l 8 16 2, aB l 2, aB l 3, aI l 4, aI l 5⟩ (aI l 6) (aI l 7)
def μ_eachF_2 (l : List At) : Nat := (aI l 0 - aI l 1).toNat

theorem rd_eachF_2 : ∀ l r, (OL_eachF_2 l).val = some r → RoundS BL_eachF_2 OL_eachF_2 μ_eachF_2 l r := by
  intro l r hh
  unfold OL_eachF_2 at hh
  obtain ⟨hc, h⟩ := guard_val hh
  clear hh
  obtain ⟨c0, c1, c2⟩ := of_pdec hc
  unfold RoundS BL_eachF_2 B_eachF_2 eachF_2_c40
  generalize hx0 : aI l 0 = x0 at *
  generalize hx1 : aI l 1 = x1 at *
  generalize hx7 : aI l 6 = x7 at *
  generalize hx8 : aI l 7 = x8 at *
  subst c0
  generalize hm : (⟨aRn l 8, aRg l 8, aMh l 8 16 2, aB l 2, aB l 3, aI l 4, aI l 5⟩ : Mem) = m at *
  refine brD (fun h1 => ?_) (fun h1 => ?_)
  · have e1 : (x0 - x1).toNat = (x0 - (x1 + 1)).toNat + 1 := by omega
    have hw : IntKind.i64.wrap (x1 + 1) = x1 + 1 := wrap_i64 (by omega) (by omega)
    have hμ : (x0 - (x1 + 1)).toNat < μ_eachF_2 l := by unfold μ_eachF_2; rw [hx0, hx1]; omega
    have hq : (0 : Int) = 0 ∧ 1 ≤ x1 + 1 ∧ x0 ≤ 1099511627776 := ⟨rfl, by omega, c2⟩
    have hne : (x1 == 0) = false := by simp; omega
    rw [e1, frL] at h
    rw [hw, hne]
    have goes : frOk m x7 x1 = false → (m.ldC x1 != 0) = false → (Tr.ok (Ex.normal, [At.i x0, At.i (x1 + 1), At.b (aB l 2), At.b (aB l 3), At.i (aI l 4), At.i (aI l 5), At.i x7, At.i 0, At.q (aRn l 8) (aRg l 8) 16 2 (aMh l 8 16 2)])).sat fun p => (p.1 = .normal ∧ ∃ l2 r', AtsEq p.2 l2 ∧ μ_eachF_2 l2 < μ_eachF_2 l ∧ (OL_eachF_2 l2).val = some r' ∧ r'.1 = r.1 ∧ AtsEq r'.2 r.2) ∨ (p.1 ≠ .normal ∧ r.1 = p.1 ∧ AtsEq p.2 r.2) := by
      intro hf hz
      rw [hz, hf] at h
      simp only [cond_false] at h
      rw [← hm] at h
      exact on_ _ r (AtsEq.refl _) hμ ((br_t (g := 0) (pdec_yes hq)).trans h) rfl (AtsEq.refl _)
    have found : frOk m x7 x1 = true → (m.ldC x1 != 0) = false → (Tr.ok (Ex.ret, [At.i 0, At.i x7, At.i x1])).sat fun p => (p.1 = .normal ∧ ∃ l2 r', AtsEq p.2 l2 ∧ μ_eachF_2 l2 < μ_eachF_2 l ∧ (OL_eachF_2 l2).val = some r' ∧ r'.1 = r.1 ∧ AtsEq r'.2 r.2) ∨ (p.1 ≠ .normal ∧ r.1 = p.1 ∧ AtsEq p.2 r.2) := by
      intro hf hz
      rw [hz, hf] at h
      have hv := val_ok h
      subst hv
      exact out_ (by simp) rfl (AtsEq.refl _)
    refine brC (fun hz => ?_) (fun hz => brT (lk _ _ _ _ _ _ _ _) (brN (fun hr => ?_) (fun hr => ?_)))
    · rw [hz] at h
      have hv := val_ok h
      subst hv
      exact out_ (by simp) rfl (AtsEq.refl _)
    · have hf : frOk m x7 x1 = true := by
        unfold frOk
        have : lrB (m.ln x1) = false := hr
        rw [this]; rfl
      exact brT rfl (found hf hz)
    · have hr' : lrB (m.ln x1) = true := hr
      refine brC (fun hs => brT rfl (found ?_ hz)) (fun hs => brF rfl (goes ?_ hz))
      · unfold frOk
        have : decide (lr0 (m.ln x1) ≤ x7) = true := hs
        rw [hr', this]; rfl
      · unfold frOk
        have : decide (lr0 (m.ln x1) ≤ x7) = false := hs
        rw [hr', this]; rfl
  · have e : (x0 - x1).toNat = 0 := by omega
    rw [e, frL] at h
    have hv := val_ok h
    subst hv
    exact out_ (by simp) rfl (AtsEq.refl _)

noncomputable def T_scL (c : Int) (n : Nat) (g : Nat → Nat → Int) : Tr (Ex × List At) := .br 0 (c != 0) (.ok (.ret, [.i c, .r n g])) (.ok (.exit 0, [.r n g]))
noncomputable def O_eachS_2 (x0 x1 : Int) (m : Mem) (n7 : Nat) (g7 : Nat → Nat → Int) : Tr (Ex × List At) :=
  .br 0 (pdec (1 ≤ x1 ∧ x0 ≤ 1000 ∧ n7 + (x0 - x1).toNat ≤ 1000000)) (T_scL (scC m (x0 - x1).toNat x1) (n7 + (scR m (x0 - x1).toNat x1).length) (appG g7 n7 (lsF (scR m (x0 - x1).toNat x1)))) .no
noncomputable def OL_eachS_2 (l : List At) : Tr (Ex × List At) := O_eachS_2 (aI l 0) (aI l 1) ⟨aRn l 6, aRg l 6, aMh l 6 16 2, aB l 2, aB l 3, aI l 4, aI l 5⟩ (aRn l 7) (aRg l 7)
def μ_eachS_2 (l : List At) : Nat := (aI l 0 - aI l 1).toNat

theorem atEq_r {n n' : Nat} {g g' : Nat → Nat → Int} (hn : n = n') (h : ∀ i, i < n → ∀ c, g i c = g' i c) : AtEq (.r n g) (.r n' g') := ⟨hn, h⟩

theorem rd_eachS_2 : ∀ l r, (OL_eachS_2 l).val = some r → RoundS BL_eachS_2 OL_eachS_2 μ_eachS_2 l r := by
  intro l r hh
  unfold OL_eachS_2 at hh
  obtain ⟨hc, h⟩ := guard_val hh
  clear hh
  obtain ⟨c0, c1, c2⟩ := of_pdec hc
  unfold RoundS BL_eachS_2 B_eachS_2 eachS_2_c43 eachS_2_c2 eachS_2_c1 eachS_2_c0
  generalize hx0 : aI l 0 = x0 at *
  generalize hx1 : aI l 1 = x1 at *
  generalize hn7 : aRn l 7 = n7 at *
  generalize hg7 : aRg l 7 = g7 at *
  generalize hm : (⟨aRn l 6, aRg l 6, aMh l 6 16 2, aB l 2, aB l 3, aI l 4, aI l 5⟩ : Mem) = m at *
  refine brD (fun h1 => ?_) (fun h1 => ?_)
  · have e1 : (x0 - x1).toNat = (x0 - (x1 + 1)).toNat + 1 := by omega
    have hw : IntKind.i64.wrap (x1 + 1) = x1 + 1 := wrap_i64 (by omega) (by omega)
    have hμ : (x0 - (x1 + 1)).toNat < μ_eachS_2 l := by unfold μ_eachS_2; rw [hx0, hx1]; omega
    rw [e1, scC, scR] at h
    rw [hw]
    refine brC (fun hz => ?_) (fun hz => brT (lk _ _ _ _ _ _ _ _) (brC (fun hr => brT (decide_eq_true (by omega)) ?_) (fun hr => ?_)))
    · rw [hz] at h
      have hv := val_ok ((br_t (g := 0) (show (m.ldC x1 != 0) = true from hz)).symm.trans h)
      subst hv
      exact out_ (by simp) rfl (atsEq_cons (AtEq.refl _) (atsEq_cons (atEq_r rfl fun i hi c => (app_nil g7 n7 i hi c).symm) atsEq_nil))
    · have hr' : lrB (m.ln x1) = true := hr
      rw [hz, hr'] at h
      simp only [cond_false, cond_true, List.length_cons] at h
      rw [← app_cons, ← hm, show n7 + ((scR (⟨aRn l 6, aRg l 6, aMh l 6 16 2, aB l 2, aB l 3, aI l 4, aI l 5⟩ : Mem) (x0 - (x1 + 1)).toNat (x1 + 1)).length + 1) = n7 + 1 + (scR (⟨aRn l 6, aRg l 6, aMh l 6 16 2, aB l 2, aB l 3, aI l 4, aI l 5⟩ : Mem) (x0 - (x1 + 1)).toNat (x1 + 1)).length by omega] at h
      have hq : 1 ≤ x1 + 1 ∧ x0 ≤ 1000 ∧ n7 + 1 + (x0 - (x1 + 1)).toNat ≤ 1000000 := ⟨by omega, c1, by omega⟩
      rw [hm] at h
      rw [← hm] at h
      rw [← hm]
      exact on_ _ r (AtsEq.refl _) hμ ((br_t (g := 0) (pdec_yes hq)).trans h) rfl (AtsEq.refl _)
    · have hr' : lrB (m.ln x1) = false := hr
      rw [hz, hr'] at h
      simp only [cond_false] at h
      rw [← hm] at h
      have hq : 1 ≤ x1 + 1 ∧ x0 ≤ 1000 ∧ n7 + (x0 - (x1 + 1)).toNat ≤ 1000000 := ⟨by omega, c1, by omega⟩
      exact on_ _ r (AtsEq.refl _) hμ ((br_t (g := 0) (pdec_yes hq)).trans h) rfl (AtsEq.refl _)
  · have e : (x0 - x1).toNat = 0 := by omega
    rw [e, scC, scR] at h
    have hv := val_ok h
    subst hv
    exact out_ (by simp) rfl (atsEq_cons (atEq_r rfl fun i hi c => (app_nil g7 n7 i hi c).symm) atsEq_nil)
end Go.Proofs.Ythpcjcdiaifoiaa.G
end

/-
  What functions of the seat compute, printed by a program from the explorer.
-/
section
namespace Go.Proofs.Ythpcjcdiaifoiaa.G
open Go Go.AM Go.Proofs
theorem f_eachF_2 : LoopF Try.prog 5 (loopAt Try.f41 2) (loopFn 5 lsh_eachF_2 xs_eachF_2 OL_eachF_2) :=
  loop_sat (sy := y_eachF_2) (fuel := 100) (Lp := noLoops) o_scan2 mixed (loopsOK_at (noLoops_ok _) 2) rfl eB_eachF_2 rd_eachF_2
noncomputable def Lp_eachF_2 : Loops := Loops.set noLoops 2 (loopFn 5 lsh_eachF_2 xs_eachF_2 OL_eachF_2)
theorem lk_eachF_2 : LoopsFn Try.prog 5 Lp_eachF_2 Try.f41 := loopsFn_set (noLoops_ok _) (by kernel_rfl) f_eachF_2

/-! ### eachF -/

noncomputable def ish_eachF : FSh := ⟨[.v false [.p 0 0], .v false [.k (.n .i64)], .v false [.k (.n .i64)], .v false [.fn 54 [(1, 0), (2, 0)]]], [.roc [.sw 3 25, .k .b, .k .b, .k (.n .i64), .k (.n .i64)], .cells [.k (.n .i64)], .cells [.k (.n .i64)], .nrows [.n .u64, .n .u64, .n .u64, .n .u64, .n .u64, .n .u64, .n .u64, .n .u64, .n .u64, .n .u64, .n .u64, .n .u64, .n .u64, .n .u64, .n .u64, .n .u64, .n .i64, .n .i64, .n .i64, .n .i64, .n .i64, .n .i64, .n .i64, .n .i64, .n .i64] 16 [.n .i64, .n .u64] 4 false false, .no]⟩
noncomputable def osh_eachF : FSh := ⟨[.v false [.k (.n .i64)]], [.no, .cells [.k (.n .i64)], .cells [.k (.n .i64)], .no, .no]⟩
noncomputable def T_eachF (x0 : Int) (x1 : Int) (x2 : Bool) (x3 : Bool) (x4 : Int) (x5 : Int) (x6 : Int) (x7 : Int) (n8 : Nat) (g8 : Nat → Nat → Int) (h8 : Nat → Nat → Int) : Tr (List At) :=
 .br 0 (Go.Proofs.Ythpcjcdiaifoiaa.G.pdec (x7 = (0 : Int) ∧ (1 : Int) ≤ x0 ∧ x1 ≤ (1099511627776 : Int)))
 (.br 0 ((Go.Proofs.Ythpcjcdiaifoiaa.G.frL { n := n8, g := g8, h := h8, off := x2, burns := x3, left := x4, steps := x5 } x6 (Int.toNat (x1 - x0)) x0).fst)
 (.ok [(.i ((Go.Proofs.Ythpcjcdiaifoiaa.G.frL { n := n8, g := g8, h := h8, off := x2, burns := x3, left := x4, steps := x5 } x6 (Int.toNat (x1 - x0)) x0).snd.fst)), (.i (x6)), (.i ((Go.Proofs.Ythpcjcdiaifoiaa.G.frL { n := n8, g := g8, h := h8, off := x2, burns := x3, left := x4, steps := x5 } x6 (Int.toNat (x1 - x0)) x0).snd.snd))])
 (.ok [(.i ((0 : Int))), (.i (x6)), (.i ((0 : Int)))]))
 (.no)
noncomputable def y_eachF : Nat → Option Nat := (syOf3 [] [] [])
noncomputable def TL_eachF (l : List At) : Tr (List At) := T_eachF (aI l 0) (aI l 1) (aB l 2) (aB l 3) (aI l 4) (aI l 5) (aI l 6) (aI l 7) (aRn l 8) (aRg l 8) (aMh l 8 16 2)
theorem e_eachF (l : List At) : (call Try.prog Γ_scan2 y_eachF Lp_eachF_2 100 Try.f41 (mkV ish_eachF l) (mkH ish_eachF l)).bind (leafO 5 osh_eachF) = TL_eachF l := by kernel_rfl
noncomputable def F_eachF : List At → Tr (List At) := TL_eachF
theorem s_eachF : SpecF Try.prog 41 (.eff (locF ish_eachF osh_eachF F_eachF)) :=
  spec_loc (sy := y_eachF) (fuel := 100) (Lp := Lp_eachF_2) o_scan2 mixed ⟨Try.func41, by kernel_rfl, by kernel_rfl⟩ ish_eachF osh_eachF lk_eachF_2 (hT_ways e_eachF)
noncomputable def Γ_eachF : Specs := upd Γ_scan2 41 (.eff (locF ish_eachF osh_eachF F_eachF))
theorem o_eachF : SpecOK Try.prog Γ_eachF := SpecOK.upd o_scan2 s_eachF

end Go.Proofs.Ythpcjcdiaifoiaa.G
end

/-
  each, for Free, in plain words.
-/
section
namespace Go.Proofs.Ythpcjcdiaifoiaa.G
open Go Go.AM Go.Proofs

theorem frL_no {m : Mem} {s : Int} : ∀ {k : Nat} {i : Int}, (frL m s k i).1 = false → (frL m s k i).2 = (0, 0)
  | 0, _, _ => rfl
  | k + 1, i, h => by
    rw [frL] at h ⊢
    cases h1 : m.ldC i != 0 with
    | true => rw [h1] at h; cases h
    | false =>
      rw [h1] at h
      cases h2 : frOk m s i with
      | true => rw [h2] at h; cases h
      | false => rw [h2] at h; exact frL_no h

/-- A memory whose numbers stand apart from its lines. -/
def mm2 (l : List At) (k j : Nat) : Mem := ⟨aRn l j, aRg l j, aMh l j 16 2, aB l k, aB l (k + 1), aI l (k + 2), aI l (k + 3)⟩
noncomputable def F2_eachF (l : List At) : Tr (List At) := .br 0 (pdec (aI l 7 = 0 ∧ 1 ≤ aI l 0 ∧ aI l 1 ≤ 1099511627776)) (.ok [.i (frL (mm2 l 2 8) (aI l 6) (aI l 1 - aI l 0).toNat (aI l 0)).2.1, .i (aI l 6), .i (frL (mm2 l 2 8) (aI l 6) (aI l 1 - aI l 0).toNat (aI l 0)).2.2]) .no
theorem s2_eachF : SpecF Try.prog 41 (.eff (locF ish_eachF osh_eachF F2_eachF)) :=
  spec_loc (sy := y_eachF) (fuel := 100) (Lp := Lp_eachF_2) o_scan2 mixed ⟨Try.func41, by kernel_rfl, by kernel_rfl⟩ ish_eachF osh_eachF lk_eachF_2 (hT_of e_eachF fun l r h => by
    obtain ⟨h1, h⟩ := guard_val h
    have := val_ok h
    subst this
    refine brT h1 (brC (fun _ => Tr.sat_ok.2 (AtsEq.refl _)) (fun hf => Tr.sat_ok.2 ?_))
    have e := frL_no (m := mm2 l 2 8) hf
    rw [e]
    exact AtsEq.refl _)
noncomputable def Γ_R3 : Specs := upd Γ_scan2 41 (.eff (locF ish_eachF osh_eachF F2_eachF))
theorem o_R3 : SpecOK Try.prog Γ_R3 := SpecOK.upd o_scan2 s2_eachF
end Go.Proofs.Ythpcjcdiaifoiaa.G
end

/-
  What functions of the seat compute, printed by a program from the explorer.
-/
section
namespace Go.Proofs.Ythpcjcdiaifoiaa.G
open Go Go.AM Go.Proofs
/-! ### rfree -/

noncomputable def ish_rfree : FSh := ⟨[.v false [.p 0 0], .v false [.k (.n .i64)], .v false [.k (.n .i64)]], [.roc [.sw 1 25, .k .b, .k .b, .k (.n .i64), .k (.n .i64)], .nrows [.n .u64, .n .u64, .n .u64, .n .u64, .n .u64, .n .u64, .n .u64, .n .u64, .n .u64, .n .u64, .n .u64, .n .u64, .n .u64, .n .u64, .n .u64, .n .u64, .n .i64, .n .i64, .n .i64, .n .i64, .n .i64, .n .i64, .n .i64, .n .i64, .n .i64] 16 [.n .i64, .n .u64] 2 false false, .no]⟩
noncomputable def osh_rfree : FSh := ⟨[.tup [(false, [.k (.n .i64)]), (false, [.k (.n .i64)])]], [.no, .no, .no]⟩
noncomputable def T_rfree (x0 : Int) (x1 : Int) (x2 : Bool) (x3 : Bool) (x4 : Int) (x5 : Int) (n6 : Nat) (g6 : Nat → Nat → Int) (h6 : Nat → Nat → Int) : Tr (List At) :=
 .br 12 (Decidable.decide (x0 < (0 : Int)))
 (.ok [(.i ((0 : Int))), (.i ((1 : Int)))])
 (.br 15 (Decidable.decide (x0 ≥ (8 : Int)))
 (.ok [(.i ((0 : Int))), (.i ((1 : Int)))])
 (.br 0 (Go.Proofs.Ythpcjcdiaifoiaa.G.pdec ((0 : Int) = (0 : Int) ∧ (1 : Int) ≤ Go.Proofs.Ythpcjcdiaifoiaa.G.r_lPlace_0 x0 (0 : Int) ∧ Go.Proofs.Ythpcjcdiaifoiaa.G.r_lPlace_0 (Go.IntKind.wrap Go.IntKind.i64 (x0 + (1 : Int))) (0 : Int) ≤ (1099511627776 : Int)))
 (.br 24 ((Go.Proofs.Ythpcjcdiaifoiaa.G.frL { n := n6, g := g6, h := h6, off := x2, burns := x3, left := x4, steps := x5 } x1 (Int.toNat (Go.Proofs.Ythpcjcdiaifoiaa.G.r_lPlace_0 (Go.IntKind.wrap Go.IntKind.i64 (x0 + (1 : Int))) (0 : Int) - Go.Proofs.Ythpcjcdiaifoiaa.G.r_lPlace_0 x0 (0 : Int))) (Go.Proofs.Ythpcjcdiaifoiaa.G.r_lPlace_0 x0 (0 : Int))).snd.fst != (0 : Int))
 (.ok [(.i ((0 : Int))), (.i ((Go.Proofs.Ythpcjcdiaifoiaa.G.frL { n := n6, g := g6, h := h6, off := x2, burns := x3, left := x4, steps := x5 } x1 (Int.toNat (Go.Proofs.Ythpcjcdiaifoiaa.G.r_lPlace_0 (Go.IntKind.wrap Go.IntKind.i64 (x0 + (1 : Int))) (0 : Int) - Go.Proofs.Ythpcjcdiaifoiaa.G.r_lPlace_0 x0 (0 : Int))) (Go.Proofs.Ythpcjcdiaifoiaa.G.r_lPlace_0 x0 (0 : Int))).snd.fst))])
 (.br 28 ((Go.Proofs.Ythpcjcdiaifoiaa.G.frL { n := n6, g := g6, h := h6, off := x2, burns := x3, left := x4, steps := x5 } x1 (Int.toNat (Go.Proofs.Ythpcjcdiaifoiaa.G.r_lPlace_0 (Go.IntKind.wrap Go.IntKind.i64 (x0 + (1 : Int))) (0 : Int) - Go.Proofs.Ythpcjcdiaifoiaa.G.r_lPlace_0 x0 (0 : Int))) (Go.Proofs.Ythpcjcdiaifoiaa.G.r_lPlace_0 x0 (0 : Int))).snd.snd == (0 : Int))
 (.ok [(.i ((0 : Int))), (.i ((11 : Int)))])
 (.ok [(.i ((Go.Proofs.Ythpcjcdiaifoiaa.G.frL { n := n6, g := g6, h := h6, off := x2, burns := x3, left := x4, steps := x5 } x1 (Int.toNat (Go.Proofs.Ythpcjcdiaifoiaa.G.r_lPlace_0 (Go.IntKind.wrap Go.IntKind.i64 (x0 + (1 : Int))) (0 : Int) - Go.Proofs.Ythpcjcdiaifoiaa.G.r_lPlace_0 x0 (0 : Int))) (Go.Proofs.Ythpcjcdiaifoiaa.G.r_lPlace_0 x0 (0 : Int))).snd.snd)), (.i ((0 : Int)))])))
 (.no)))
noncomputable def y_rfree : Nat → Option Nat := (syOf3 [12, 15, 24, 28] [] [])
noncomputable def TL_rfree (l : List At) : Tr (List At) := T_rfree (aI l 0) (aI l 1) (aB l 2) (aB l 3) (aI l 4) (aI l 5) (aRn l 6) (aRg l 6) (aMh l 6 16 2)
theorem e_rfree (l : List At) : (call Try.prog Γ_R3 y_rfree noLoops 100 Try.f30 (mkV ish_rfree l) (mkH ish_rfree l)).bind (leafO 3 osh_rfree) = TL_rfree l := by kernel_rfl
noncomputable def F_rfree : List At → Tr (List At) := TL_rfree
theorem s_rfree : SpecF Try.prog 30 (.read (locR ish_rfree osh_rfree F_rfree)) :=
  spec_read (sy := y_rfree) (fuel := 100) (Lp := noLoops) o_R3 mixed ⟨Try.func30, by kernel_rfl, by kernel_rfl⟩ ish_rfree osh_rfree (by kernel_rfl) (noLoops_ok _) (hT_ways e_rfree)
noncomputable def Γ_rfree : Specs := upd Γ_R3 30 (.read (locR ish_rfree osh_rfree F_rfree))
theorem o_rfree : SpecOK Try.prog Γ_rfree := SpecOK.upd o_R3 s_rfree

end Go.Proofs.Ythpcjcdiaifoiaa.G
end

/-
  Free, in plain words.
-/
section
namespace Go.Proofs.Ythpcjcdiaifoiaa.G
open Go Go.AM Go.Proofs

theorem place_eq {c n : Int} (h : 0 ≤ c ∧ c ≤ 9) (hn : 0 ≤ n ∧ n ≤ 100) : r_lPlace_0 c n = 2 + 4 * c + n := by
  unfold r_lPlace_0
  rw [wrap_i64 (x := 4 * c) (by omega) (by omega), wrap_i64 (x := 2 + 4 * c) (by omega) (by omega), wrap_i64 (by omega) (by omega)]

def coreB (c : Int) : Bool := decide (c < 0) || decide (c ≥ 8)
def faC (m : Mem) (c s : Int) : Int := bif coreB c then 1 else bif (frL m s 4 (2 + 4 * c)).2.1 != 0 then (frL m s 4 (2 + 4 * c)).2.1 else bif (frL m s 4 (2 + 4 * c)).2.2 == 0 then 11 else 0
def faA (m : Mem) (c s : Int) : Int := bif coreB c then 0 else bif (frL m s 4 (2 + 4 * c)).2.1 != 0 then 0 else (frL m s 4 (2 + 4 * c)).2.2

theorem t_rfree (c s : Int) (m : Mem) : (T_rfree c s m.off m.burns m.left m.steps m.n m.g m.h).sat fun r => AtsEq r [.i (faA m c s), .i (faC m c s)] := by
  unfold T_rfree faA faC coreB
  refine brD (fun h1 => Tr.sat_ok.2 ?_) (fun h1 => brD (fun h2 => Tr.sat_ok.2 ?_) (fun h2 => ?_))
  · rw [decide_eq_true h1]; exact AtsEq.refl _
  · rw [decide_eq_false h1, decide_eq_true h2]; exact AtsEq.refl _
  · rw [decide_eq_false h1, decide_eq_false h2, wrap_i64 (x := c + 1) (by omega) (by omega), place_eq ⟨by omega, by omega⟩ (by decide), place_eq ⟨by omega, by omega⟩ (by decide),
      show (2 + 4 * (c + 1) + 0 - (2 + 4 * c + 0)).toNat = 4 by omega, show 2 + 4 * c + 0 = 2 + 4 * c by omega]
    refine brT (pdec_yes ⟨rfl, by omega, by omega⟩) ?_
    show (Tr.br 24 ((frL m s 4 (2 + 4 * c)).2.1 != 0) _ _).sat _
    refine brC (fun h3 => Tr.sat_ok.2 ?_) (fun h3 => brC (fun h4 => Tr.sat_ok.2 ?_) (fun h4 => Tr.sat_ok.2 ?_))
    · rw [h3]; exact AtsEq.refl _
    · have h4' : ((frL m s 4 (2 + 4 * c)).2.2 == 0) = true := h4
      rw [h3, h4', show (frL m s 4 (2 + 4 * c)).2.2 = 0 by simpa using h4']; exact AtsEq.refl _
    · have h4' : ((frL m s 4 (2 + 4 * c)).2.2 == 0) = false := h4
      rw [h3, h4']; exact AtsEq.refl _

noncomputable def F2_rfree (l : List At) : Tr (List At) := .ok [.i (faA (mm l 2) (aI l 0) (aI l 1)), .i (faC (mm l 2) (aI l 0) (aI l 1))]
theorem s2_rfree : SpecF Try.prog 30 (.read (locR ish_rfree osh_rfree F2_rfree)) :=
  spec_read (sy := y_rfree) (fuel := 100) (Lp := noLoops) o_R3 mixed ⟨Try.func30, by kernel_rfl, by kernel_rfl⟩ ish_rfree osh_rfree (by kernel_rfl) (noLoops_ok _) (hT_of e_rfree fun l r h => by
    have := val_ok h
    subst this
    exact t_rfree (aI l 0) (aI l 1) (mm l 2))
noncomputable def Γ_R4 : Specs := upd Γ_rfree 30 (.read (locR ish_rfree osh_rfree F2_rfree))
theorem o_R4 : SpecOK Try.prog Γ_R4 := SpecOK.upd o_rfree s2_rfree
end Go.Proofs.Ythpcjcdiaifoiaa.G
end

/-
  What functions of the seat compute, printed by a program from the explorer.
-/
section
namespace Go.Proofs.Ythpcjcdiaifoiaa.G
open Go Go.AM Go.Proofs
/-! ### the loop at 11 of rappend -/

noncomputable def lsh_rappend_11 : FSh := ⟨[.v false [.p 0 0], .v false [.k (.n .i64)], .any, .any, .any, .any, .any, .any, .any, .v false [.k (.n .i64)], .any, .any, .any, .any, .any, .any, .any, .any, .any, .any, .any, .any, .any, .any, .any, .any, .any, .any, .any, .any, .any, .any, .any, .any, .any, .any, .any, .any, .any, .any, .any, .v true [.k (.n .u64), .k (.n .u64), .k (.n .u64), .k (.n .u64), .k (.n .u64), .k (.n .u64), .k (.n .u64), .k (.n .u64)], .v false [.k (.n .i64)], .any, .any, .any, .any, .any, .any, .any, .any, .any, .any, .any, .any, .any, .any, .any, .any, .any, .any, .any, .any, .any, .any], [.cells [.sw 1 25, .k .b, .k .b, .k (.n .i64), .k (.n .i64)], .nrows [.n .u64, .n .u64, .n .u64, .n .u64, .n .u64, .n .u64, .n .u64, .n .u64, .n .u64, .n .u64, .n .u64, .n .u64, .n .u64, .n .u64, .n .u64, .n .u64, .n .i64, .n .i64, .n .i64, .n .i64, .n .i64, .n .i64, .n .i64, .n .i64, .n .i64] 16 [.n .i64, .n .u64] 3 false true, .no, .no]⟩
noncomputable def xsh_rappend_11_0 : FSh := ⟨[.v false [.p 0 0], .v false [.k (.n .i64)], .any, .any, .any, .any, .any, .any, .any, .v false [.k (.n .i64)], .any, .any, .any, .any, .any, .any, .any, .any, .any, .any, .any, .any, .any, .any, .any, .any, .any, .any, .any, .any, .any, .any, .any, .any, .any, .any, .any, .any, .any, .any, .any, .any, .any, .any, .any, .any, .any, .any, .any, .any, .any, .any, .any, .any, .any, .any, .any, .any, .any, .any, .any, .any, .any, .any, .any], [.cells [.sw 1 25, .k .b, .k .b, .k (.n .i64), .k (.n .i64)], .nrows [.n .u64, .n .u64, .n .u64, .n .u64, .n .u64, .n .u64, .n .u64, .n .u64, .n .u64, .n .u64, .n .u64, .n .u64, .n .u64, .n .u64, .n .u64, .n .u64, .n .i64, .n .i64, .n .i64, .n .i64, .n .i64, .n .i64, .n .i64, .n .i64, .n .i64] 16 [.n .i64, .n .u64] 3 false true, .no, .no]⟩
noncomputable def xsh_rappend_11_1 : FSh := ⟨[.any, .any, .any, .any, .any, .any, .any, .any, .v false [.k (.n .i64)], .any, .any, .any, .any, .any, .any, .any, .any, .any, .any, .any, .any, .any, .any, .any, .any, .any, .any, .any, .any, .any, .any, .any, .any, .any, .any, .any, .any, .any, .any, .any, .any, .any, .any, .any, .any, .any, .any, .any, .any, .any, .any, .any, .any, .any, .any, .any, .any, .any, .any, .any, .any, .any, .any, .any, .any], [.cells [.sw 1 25, .k .b, .k .b, .k (.n .i64), .k (.n .i64)], .nrows [.n .u64, .n .u64, .n .u64, .n .u64, .n .u64, .n .u64, .n .u64, .n .u64, .n .u64, .n .u64, .n .u64, .n .u64, .n .u64, .n .u64, .n .u64, .n .u64, .n .i64, .n .i64, .n .i64, .n .i64, .n .i64, .n .i64, .n .i64, .n .i64, .n .i64] 16 [.n .i64, .n .u64] 3 false true, .no, .no]⟩
noncomputable def xs_rappend_11 : Exs := fun e => match e with
  | .normal => some lsh_rappend_11
  | .exit n => (match Nat.beq n 0 with | true => some xsh_rappend_11_0 | false => none)
  | .ret => some xsh_rappend_11_1
noncomputable def B_rappend_11 (x0 : Int) (x1 : Int) (x2 : Int) (x3 : Int) (x4 : Int) (x5 : Int) (x6 : Int) (x7 : Int) (x8 : Int) (x9 : Int) (x10 : Int) (x11 : Bool) (x12 : Bool) (x13 : Int) (x14 : Int) (n15 : Nat) (g15 : Nat → Nat → Int) (h15 : Nat → Nat → Int) : Tr (Ex × List At) :=
 .br 43 (Decidable.decide (x10 < (8 : Int)))
 (.br 200045 (Go.AM.within x10 (8 : Nat))
 (.br 0 (Go.Proofs.Ythpcjcdiaifoiaa.G.pdec (Go.Proofs.Ythpcjcdiaifoiaa.G.Mem.Ok (900000 : Int) { n := n15, g := g15, h := h15, off := x11, burns := x12, left := x13, steps := x14 }))
 (.br 52 (Go.Proofs.Ythpcjcdiaifoiaa.G.Mem.stC { n := n15, g := g15, h := h15, off := x11, burns := x12, left := x13, steps := x14 } x1 x10 != (0 : Int))
 (.ok (.ret, [(.i (Go.Proofs.Ythpcjcdiaifoiaa.G.Mem.stC { n := n15, g := g15, h := h15, off := x11, burns := x12, left := x13, steps := x14 } x1 x10)), (.b ((Go.Proofs.Ythpcjcdiaifoiaa.G.Mem.stM { n := n15, g := g15, h := h15, off := x11, burns := x12, left := x13, steps := x14 } x1 x10 (List.getD [x2, x3, x4, x5, x6, x7, x8, x9] (Int.toNat x10) (0 : Int))).off)), (.b ((Go.Proofs.Ythpcjcdiaifoiaa.G.Mem.stM { n := n15, g := g15, h := h15, off := x11, burns := x12, left := x13, steps := x14 } x1 x10 (List.getD [x2, x3, x4, x5, x6, x7, x8, x9] (Int.toNat x10) (0 : Int))).burns)), (.i ((Go.Proofs.Ythpcjcdiaifoiaa.G.Mem.stM { n := n15, g := g15, h := h15, off := x11, burns := x12, left := x13, steps := x14 } x1 x10 (List.getD [x2, x3, x4, x5, x6, x7, x8, x9] (Int.toNat x10) (0 : Int))).left)), (.i ((Go.Proofs.Ythpcjcdiaifoiaa.G.Mem.stM { n := n15, g := g15, h := h15, off := x11, burns := x12, left := x13, steps := x14 } x1 x10 (List.getD [x2, x3, x4, x5, x6, x7, x8, x9] (Int.toNat x10) (0 : Int))).steps)), (.q ((Go.Proofs.Ythpcjcdiaifoiaa.G.Mem.stM { n := n15, g := g15, h := h15, off := x11, burns := x12, left := x13, steps := x14 } x1 x10 (List.getD [x2, x3, x4, x5, x6, x7, x8, x9] (Int.toNat x10) (0 : Int))).n) ((Go.Proofs.Ythpcjcdiaifoiaa.G.Mem.stM { n := n15, g := g15, h := h15, off := x11, burns := x12, left := x13, steps := x14 } x1 x10 (List.getD [x2, x3, x4, x5, x6, x7, x8, x9] (Int.toNat x10) (0 : Int))).g) ((16 : Nat)) ((2 : Nat)) ((Go.Proofs.Ythpcjcdiaifoiaa.G.Mem.stM { n := n15, g := g15, h := h15, off := x11, burns := x12, left := x13, steps := x14 } x1 x10 (List.getD [x2, x3, x4, x5, x6, x7, x8, x9] (Int.toNat x10) (0 : Int))).h))]))
 (.ok (.normal, [(.i (x0)), (.i (x1)), (.i (x2)), (.i (x3)), (.i (x4)), (.i (x5)), (.i (x6)), (.i (x7)), (.i (x8)), (.i (x9)), (.i (Go.IntKind.wrap Go.IntKind.i64 (x10 + (1 : Int)))), (.b ((Go.Proofs.Ythpcjcdiaifoiaa.G.Mem.stM { n := n15, g := g15, h := h15, off := x11, burns := x12, left := x13, steps := x14 } x1 x10 (List.getD [x2, x3, x4, x5, x6, x7, x8, x9] (Int.toNat x10) (0 : Int))).off)), (.b ((Go.Proofs.Ythpcjcdiaifoiaa.G.Mem.stM { n := n15, g := g15, h := h15, off := x11, burns := x12, left := x13, steps := x14 } x1 x10 (List.getD [x2, x3, x4, x5, x6, x7, x8, x9] (Int.toNat x10) (0 : Int))).burns)), (.i ((Go.Proofs.Ythpcjcdiaifoiaa.G.Mem.stM { n := n15, g := g15, h := h15, off := x11, burns := x12, left := x13, steps := x14 } x1 x10 (List.getD [x2, x3, x4, x5, x6, x7, x8, x9] (Int.toNat x10) (0 : Int))).left)), (.i ((Go.Proofs.Ythpcjcdiaifoiaa.G.Mem.stM { n := n15, g := g15, h := h15, off := x11, burns := x12, left := x13, steps := x14 } x1 x10 (List.getD [x2, x3, x4, x5, x6, x7, x8, x9] (Int.toNat x10) (0 : Int))).steps)), (.q ((Go.Proofs.Ythpcjcdiaifoiaa.G.Mem.stM { n := n15, g := g15, h := h15, off := x11, burns := x12, left := x13, steps := x14 } x1 x10 (List.getD [x2, x3, x4, x5, x6, x7, x8, x9] (Int.toNat x10) (0 : Int))).n) ((Go.Proofs.Ythpcjcdiaifoiaa.G.Mem.stM { n := n15, g := g15, h := h15, off := x11, burns := x12, left := x13, steps := x14 } x1 x10 (List.getD [x2, x3, x4, x5, x6, x7, x8, x9] (Int.toNat x10) (0 : Int))).g) ((16 : Nat)) ((2 : Nat)) ((Go.Proofs.Ythpcjcdiaifoiaa.G.Mem.stM { n := n15, g := g15, h := h15, off := x11, burns := x12, left := x13, steps := x14 } x1 x10 (List.getD [x2, x3, x4, x5, x6, x7, x8, x9] (Int.toNat x10) (0 : Int))).h))])))
 (.no))
 (.no))
 (.ok (.exit 0, [(.i (x0)), (.i (x1)), (.b (x11)), (.b (x12)), (.i (x13)), (.i (x14)), (.q (n15) (g15) ((16 : Nat)) ((2 : Nat)) (h15))]))
noncomputable def y_rappend_11 : Nat → Option Nat := (syOf3 [43, 52] [] [45])
noncomputable def BL_rappend_11 (l : List At) : Tr (Ex × List At) := B_rappend_11 (aI l 0) (aI l 1) (aI l 2) (aI l 3) (aI l 4) (aI l 5) (aI l 6) (aI l 7) (aI l 8) (aI l 9) (aI l 10) (aB l 11) (aB l 12) (aI l 13) (aI l 14) (aRn l 15) (aRg l 15) (aMh l 15 16 2)
theorem eB_rappend_11 (l : List At) : (exec Try.prog Γ_R4 y_rappend_11 noLoops 100 (loopAt Try.f18 11) ⟨mkV lsh_rappend_11 l, mkH lsh_rappend_11 l⟩).bind (leafL 3 xs_rappend_11) = BL_rappend_11 l := by kernel_rfl
/- by hand: O_rappend_11 (x0 : Int) (x1 : Int) (x2 : Int) (x3 : Int) (x4 : Int) (x5 : Int) (x6 : Int) (x7 : Int) (x8 : Int) (x9 : Int) (x10 : Int) (x11 : Bool) (x12 : Bool) (x13 : Int) (x14 : Int) (n15 : Nat) (g15 : Nat → Nat → Int) (h15 : Nat → Nat → Int) : Tr (Ex × List At); OL_rappend_11 (l) := O_rappend_11 (aI l 0) (aI l 1) (aI l 2) (aI l 3) (aI l 4) (aI l 5) (aI l 6) (aI l 7) (aI l 8) (aI l 9) (aI l 10) (aB l 11) (aB l 12) (aI l 13) (aI l 14) (aRn l 15) (aRg l 15) (aMh l 15 16 2); μ_rappend_11 : List At → Nat; rd_rappend_11 : ∀ l r, (OL_rappend_11 l).val = some r → RoundA BL_rappend_11 OL_rappend_11 μ_rappend_11 l r -/

end Go.Proofs.Ythpcjcdiaifoiaa.G
end

/-
  The loop of Append: a line's words, one behind the other.
-/
section
namespace Go.Proofs.Ythpcjcdiaifoiaa.G
open Go Go.AM Go.Proofs

/-- 'k' words from the 'i'-th on are stored, as long as the power is on; and the last code. -/
def stL (w : Nat → Int) (s : Int) : (k i : Nat) → Mem → Mem × Int
  | 0, _, M => (M, 0)
  | k + 1, i, M => if M.stC s (i : Int) = 0 then stL w s k (i + 1) (M.stM s (i : Int) (w i)) else (M.stM s (i : Int) (w i), M.stC s (i : Int))

def T_stL (x0 x1 : Int) (p : Mem × Int) : Tr (Ex × List At) := .br 0 (p.2 != 0) (.ok (.ret, .i p.2 :: p.1.ats)) (.ok (.exit 0, .i x0 :: .i x1 :: p.1.ats))

def preW (x10 : Int) (m : Mem) : Prop := 0 ≤ x10 ∧ x10 ≤ 8 ∧ m.Ok (890000 + x10)

noncomputable def O_rappend_11 (x0 x1 x10 : Int) (w : Nat → Int) (m : Mem) : Tr (Ex × List At) :=
  .br 0 (pdec (preW x10 m)) (T_stL x0 x1 (stL w x1 (8 - x10.toNat) x10.toNat m)) .no
noncomputable def OL_rappend_11 (l : List At) : Tr (Ex × List At) := O_rappend_11 (aI l 0) (aI l 1) (aI l 10) (fun i => [aI l 2, aI l 3, aI l 4, aI l 5, aI l 6, aI l 7, aI l 8, aI l 9].getD i 0) ⟨aRn l 15, aRg l 15, aMh l 15 16 2, aB l 11, aB l 12, aI l 13, aI l 14⟩
def μ_rappend_11 (l : List At) : Nat := (8 - aI l 10).toNat

theorem rd_rappend_11 : ∀ l r, (OL_rappend_11 l).val = some r → RoundS BL_rappend_11 OL_rappend_11 μ_rappend_11 l r := by
  intro l r hh
  unfold OL_rappend_11 at hh
  obtain ⟨hc, h⟩ := guard_val hh
  clear hh
  obtain ⟨c0, c1, c2⟩ := of_pdec hc
  unfold RoundS BL_rappend_11 B_rappend_11
  generalize hx0 : aI l 0 = x0 at *
  generalize hx1 : aI l 1 = x1 at *
  generalize hx10 : aI l 10 = x10 at *
  refine brD (fun h1 => ?_) (fun h1 => ?_)
  · obtain ⟨i, rfl⟩ := Int.eq_ofNat_of_zero_le c0
    rw [Int.toNat_natCast] at h ⊢
    have hw : IntKind.i64.wrap ((i : Int) + 1) = (i : Int) + 1 := wrap_i64 (by omega) (by omega)
    have hμ : (8 - ((i : Int) + 1)).toNat < μ_rappend_11 l := by unfold μ_rappend_11; rw [hx10]; omega
    have e1 : 8 - i = (8 - ((i : Int) + 1).toNat) + 1 := by omega
    rw [e1, stL] at h
    rw [hw]
    refine brW (fun _ => brT (pdec_yes (c2.mono (by omega))) (brNE (fun hne => ?_) (fun he => ?_))) (fun hh => by exfalso; omega)
    · rw [if_neg hne] at h
      have hv := val_ok ((br_t (g := 0) (show (_ != (0 : Int)) = true by simpa using hne)).symm.trans h)
      subst hv
      exact out_ (by simp) rfl (AtsEq.refl _)
    · rw [if_pos he] at h
      have hq : preW ((i : Int) + 1) _ := ⟨by omega, by omega, (stM_ok (i := x1) (w := (i : Int)) (v := [aI l 2, aI l 3, aI l 4, aI l 5, aI l 6, aI l 7, aI l 8, aI l 9].getD i 0) c2 (by omega)).mono (by omega)⟩
      exact on_ _ r (AtsEq.refl _) hμ ((br_t (g := 0) (pdec_yes hq)).trans h) rfl (AtsEq.refl _)
  · have e : 8 - x10.toNat = 0 := by omega
    rw [e, stL] at h
    have hv := val_ok h
    subst hv
    exact out_ (by simp) rfl (AtsEq.refl _)
end Go.Proofs.Ythpcjcdiaifoiaa.G
end

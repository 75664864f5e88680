/-
  Sums and seals, in plain numbers.
-/
import Derived.Test.YtgmhggipaopoiaaCrc2
namespace Go.Proofs.Ytgmhggipaopoiaa.G
open Go Go.AM Go.Proofs

theorem crcMore_eq (x : Int) {n : Nat} (g : Nat → Nat → Int) (h : n < 9223372036854775807) : ok_crcMore x n g = true ∧ r_crcMore_0 x n g = sumBy crcStep x n (fun j => g j 0) := by
  have hc : (decide ((0 : Int) ≤ 0) && decide ((0 : Int) ≤ (n : Int)) && decide ((n : Int) = (n : Int)) && decide ((n : Int) < 9223372036854775807)) = true := by
    simp only [Bool.and_eq_true, decide_eq_true_eq]
    exact ⟨⟨⟨by omega, by omega⟩, trivial⟩, by omega⟩
  unfold ok_crcMore r_crcMore_0
  rw [hc]
  refine ⟨rfl, ?_⟩
  rw [cond_true, show ((n : Int) - 0).toNat = n by omega]
  rfl

theorem crcSum_eq {n : Nat} (g : Nat → Nat → Int) (h : n < 9223372036854775807) : ok_crcSum n g = true ∧ r_crcSum_0 n g = sumBy crcStep 0 n (fun j => g j 0) := by
  obtain ⟨h1, h2⟩ := crcMore_eq 0 (fun j cc => g (0 + j) cc) h
  unfold ok_crcSum r_crcSum_0
  rw [h1, h2]
  simp

theorem refReg_eq (x : Int) {n : Nat} (g : Nat → Nat → Int) (h : n < 9223372036854775807) : ok_refReg x n g = true ∧ r_refReg_0 x n g = crcFold refStep (fun j => g j 0) n 0 x := by
  have hc : (decide ((0 : Int) ≤ 0) && decide ((0 : Int) ≤ (n : Int)) && decide ((n : Int) < 9223372036854775807)) = true := by
    simp only [Bool.and_eq_true, decide_eq_true_eq]; omega
  unfold ok_refReg r_refReg_0
  rw [hc]
  refine ⟨rfl, ?_⟩
  rw [cond_true, show ((n : Int) - 0).toNat = n by omega]

theorem refSum_eq {n : Nat} (g : Nat → Nat → Int) (h : n < 9223372036854775807) : ok_refSum n g = true ∧ r_refSum_0 n g = sumBy refStep 0 n (fun j => g j 0) := by
  obtain ⟨h1, h2⟩ := refReg_eq 4294967295 (fun j cc => g (0 + j) cc) h
  unfold ok_refSum r_refSum_0
  rw [h1, h2]
  refine ⟨rfl, ?_⟩
  have e : bits BinOp.xor IntKind.u32 4294967295 0 = 4294967295 := by decide +kernel
  unfold sumBy
  rw [e]
  simp

/-! ### words as bytes -/

theorem wrap_byte {x : Int} {k : Int} (h0 : 0 ≤ x) (hk : 0 < k) : IntKind.wrap IntKind.u8 (Int.fdiv x k) = ((x.toNat / k.toNat % 256 : Nat) : Int) := by
  rw [wrap_u8_mod, Int.fdiv_eq_ediv_of_nonneg _ (by omega)]
  obtain ⟨n, rfl⟩ := Int.eq_ofNat_of_zero_le h0
  obtain ⟨m, rfl⟩ := Int.eq_ofNat_of_zero_le (show 0 ≤ k by omega)
  simp only [Int.toNat_natCast]
  rfl

/-- The byte 'j' of seven words. -/
def byteOf (w : Nat → Nat) (j : Nat) : Nat := w (j / 8) / 2 ^ (8 * (j % 8)) % 256

def words7 (x0 x1 x2 x3 x4 x5 x6 : Int) : Nat → Nat := fun i => ([x0, x1, x2, x3, x4, x5, x6].getD i 0).toNat

def sealRows (x0 x1 x2 x3 x4 x5 x6 : Int) : List (List Int) :=
  [[r_wordBytes_0 x0], [r_wordBytes_1 x0], [r_wordBytes_2 x0], [r_wordBytes_3 x0], [r_wordBytes_4 x0], [r_wordBytes_5 x0], [r_wordBytes_6 x0], [r_wordBytes_7 x0],
   [r_wordBytes_8 x1], [r_wordBytes_9 x1], [r_wordBytes_10 x1], [r_wordBytes_11 x1], [r_wordBytes_12 x1], [r_wordBytes_13 x1], [r_wordBytes_14 x1], [r_wordBytes_15 x1],
   [r_wordBytes_16 x2], [r_wordBytes_17 x2], [r_wordBytes_18 x2], [r_wordBytes_19 x2], [r_wordBytes_20 x2], [r_wordBytes_21 x2], [r_wordBytes_22 x2], [r_wordBytes_23 x2],
   [r_wordBytes_24 x3], [r_wordBytes_25 x3], [r_wordBytes_26 x3], [r_wordBytes_27 x3], [r_wordBytes_28 x3], [r_wordBytes_29 x3], [r_wordBytes_30 x3], [r_wordBytes_31 x3],
   [r_wordBytes_32 x4], [r_wordBytes_33 x4], [r_wordBytes_34 x4], [r_wordBytes_35 x4], [r_wordBytes_36 x4], [r_wordBytes_37 x4], [r_wordBytes_38 x4], [r_wordBytes_39 x4],
   [r_wordBytes_40 x5], [r_wordBytes_41 x5], [r_wordBytes_42 x5], [r_wordBytes_43 x5], [r_wordBytes_44 x5], [r_wordBytes_45 x5], [r_wordBytes_46 x5], [r_wordBytes_47 x5],
   [r_wordBytes_48 x6], [r_wordBytes_49 x6], [r_wordBytes_50 x6], [r_wordBytes_51 x6], [r_wordBytes_52 x6], [r_wordBytes_53 x6], [r_wordBytes_54 x6], [r_wordBytes_55 x6]]

theorem byte_at {x : Int} (h : 0 ≤ x) {w : Nat → Nat} {i : Nat} (hw : w i = x.toNat) (k : Nat) (hk : k < 8) (p : Int) (hp : p = ((2 ^ (8 * k) : Nat) : Int)) : IntKind.wrap IntKind.u8 (Int.fdiv x p) = ((byteOf w (8 * i + k) : Nat) : Int) := by
  subst hp
  rw [wrap_byte h (by have := Nat.two_pow_pos (8 * k); omega)]
  unfold byteOf
  rw [show (8 * i + k) / 8 = i by omega, show (8 * i + k) % 8 = k by omega, hw]
  rfl

theorem sealRows_byte {x0 x1 x2 x3 x4 x5 x6 : Int} (h0 : 0 ≤ x0) (h1 : 0 ≤ x1) (h2 : 0 ≤ x2) (h3 : 0 ≤ x3) (h4 : 0 ≤ x4) (h5 : 0 ≤ x5) (h6 : 0 ≤ x6) : ∀ j, j < 56 →
    rowsF (sealRows x0 x1 x2 x3 x4 x5 x6) j 0 = ((byteOf (words7 x0 x1 x2 x3 x4 x5 x6) j : Nat) : Int) := by
  intro j hj
  have d : j / 8 = 0 ∨ j / 8 = 1 ∨ j / 8 = 2 ∨ j / 8 = 3 ∨ j / 8 = 4 ∨ j / 8 = 5 ∨ j / 8 = 6 := by omega
  have m : j % 8 = 0 ∨ j % 8 = 1 ∨ j % 8 = 2 ∨ j % 8 = 3 ∨ j % 8 = 4 ∨ j % 8 = 5 ∨ j % 8 = 6 ∨ j % 8 = 7 := by omega
  rcases d with d | d | d | d | d | d | d
  all_goals
    rcases m with m | m | m | m | m | m | m | m
    all_goals
      have e : j = 8 * (j / 8) + j % 8 := by omega
      rw [d, m] at e
      subst e
      first
        | exact byte_at h0 (w := words7 x0 x1 x2 x3 x4 x5 x6) (i := 0) rfl _ (by omega) _ rfl
        | exact byte_at h1 (w := words7 x0 x1 x2 x3 x4 x5 x6) (i := 1) rfl _ (by omega) _ rfl
        | exact byte_at h2 (w := words7 x0 x1 x2 x3 x4 x5 x6) (i := 2) rfl _ (by omega) _ rfl
        | exact byte_at h3 (w := words7 x0 x1 x2 x3 x4 x5 x6) (i := 3) rfl _ (by omega) _ rfl
        | exact byte_at h4 (w := words7 x0 x1 x2 x3 x4 x5 x6) (i := 4) rfl _ (by omega) _ rfl
        | exact byte_at h5 (w := words7 x0 x1 x2 x3 x4 x5 x6) (i := 5) rfl _ (by omega) _ rfl
        | exact byte_at h6 (w := words7 x0 x1 x2 x3 x4 x5 x6) (i := 6) rfl _ (by omega) _ rfl

/-- The word that seals seven others. -/
def sealN (w : Nat → Nat) : Nat := 4294967296 + crcN 0 56 (byteOf w)

theorem byteOf_lt (w : Nat → Nat) (j : Nat) : byteOf w j < 256 := Nat.mod_lt _ (by decide)

theorem sealN_lt (w : Nat → Nat) : sealN w < 8589934592 := by
  have := crcN_lt (x := 0) (m := 56) (b := byteOf w) (fun j _ => byteOf_lt w j) (by decide)
  unfold sealN; omega

theorem or_mark {n : Nat} (h : n < 4294967296) : 4294967296 ||| n = 4294967296 + n := by
  have := Nat.two_pow_add_eq_or_of_lt (i := 32) (b := n) (by simpa using h) 1
  simpa using this.symm

theorem sum_seal {f : Int → Int} (hf : ∀ n : Nat, n < 4294967296 → f (n : Int) = stpN n) {x0 x1 x2 x3 x4 x5 x6 : Int} (h0 : 0 ≤ x0) (h1 : 0 ≤ x1) (h2 : 0 ≤ x2) (h3 : 0 ≤ x3) (h4 : 0 ≤ x4) (h5 : 0 ≤ x5) (h6 : 0 ≤ x6) :
    sumBy f 0 56 (fun j => rowsF (sealRows x0 x1 x2 x3 x4 x5 x6) j 0) = (crcN 0 56 (byteOf (words7 x0 x1 x2 x3 x4 x5 x6)) : Nat) := by
  have hb := sealRows_byte h0 h1 h2 h3 h4 h5 h6
  have hB : IsBytes 56 (fun j => rowsF (sealRows x0 x1 x2 x3 x4 x5 x6) j 0) := fun j hj => by
    show 0 ≤ rowsF (sealRows x0 x1 x2 x3 x4 x5 x6) j 0 ∧ rowsF (sealRows x0 x1 x2 x3 x4 x5 x6) j 0 < 256
    rw [hb j hj]
    have := byteOf_lt (words7 x0 x1 x2 x3 x4 x5 x6) j
    omega
  have := sumBy_nat hf hB (x := 0) (by decide)
  rw [show ((0 : Nat) : Int) = 0 from rfl] at this
  rw [this]
  congr 1
  exact crcN_congr fun j hj => by
    show (rowsF (sealRows x0 x1 x2 x3 x4 x5 x6) j 0).toNat = _
    rw [hb j hj]; rfl

theorem sum_ok (x0 x1 x2 x3 x4 x5 x6 : Int) : ok_crcSum 56 (rowsF (sealRows x0 x1 x2 x3 x4 x5 x6)) = true := (crcSum_eq (rowsF (sealRows x0 x1 x2 x3 x4 x5 x6)) (by decide)).1

theorem ok_seal (x0 x1 x2 x3 x4 x5 x6 x7 : Int) : ok_crcSeal x0 x1 x2 x3 x4 x5 x6 x7 = true := by
  show (bif ok_crcSum 56 (rowsF (sealRows x0 x1 x2 x3 x4 x5 x6)) then true else false) = true
  rw [sum_ok]; rfl
theorem seal_0 (x0 x1 x2 x3 x4 x5 x6 : Int) : r_crcSeal_0 x0 x1 x2 x3 x4 x5 x6 = x0 := by
  show (bif ok_crcSum 56 (rowsF (sealRows x0 x1 x2 x3 x4 x5 x6)) then x0 else 0) = x0
  rw [sum_ok]; rfl
theorem seal_1 (x0 x1 x2 x3 x4 x5 x6 : Int) : r_crcSeal_1 x0 x1 x2 x3 x4 x5 x6 = x1 := by
  show (bif ok_crcSum 56 (rowsF (sealRows x0 x1 x2 x3 x4 x5 x6)) then x1 else 0) = x1
  rw [sum_ok]; rfl
theorem seal_2 (x0 x1 x2 x3 x4 x5 x6 : Int) : r_crcSeal_2 x0 x1 x2 x3 x4 x5 x6 = x2 := by
  show (bif ok_crcSum 56 (rowsF (sealRows x0 x1 x2 x3 x4 x5 x6)) then x2 else 0) = x2
  rw [sum_ok]; rfl
theorem seal_3 (x0 x1 x2 x3 x4 x5 x6 : Int) : r_crcSeal_3 x0 x1 x2 x3 x4 x5 x6 = x3 := by
  show (bif ok_crcSum 56 (rowsF (sealRows x0 x1 x2 x3 x4 x5 x6)) then x3 else 0) = x3
  rw [sum_ok]; rfl
theorem seal_4 (x0 x1 x2 x3 x4 x5 x6 : Int) : r_crcSeal_4 x0 x1 x2 x3 x4 x5 x6 = x4 := by
  show (bif ok_crcSum 56 (rowsF (sealRows x0 x1 x2 x3 x4 x5 x6)) then x4 else 0) = x4
  rw [sum_ok]; rfl
theorem seal_5 (x0 x1 x2 x3 x4 x5 x6 : Int) : r_crcSeal_5 x0 x1 x2 x3 x4 x5 x6 = x5 := by
  show (bif ok_crcSum 56 (rowsF (sealRows x0 x1 x2 x3 x4 x5 x6)) then x5 else 0) = x5
  rw [sum_ok]; rfl
theorem seal_6 (x0 x1 x2 x3 x4 x5 x6 : Int) : r_crcSeal_6 x0 x1 x2 x3 x4 x5 x6 = x6 := by
  show (bif ok_crcSum 56 (rowsF (sealRows x0 x1 x2 x3 x4 x5 x6)) then x6 else 0) = x6
  rw [sum_ok]; rfl
theorem seal_7 {x0 x1 x2 x3 x4 x5 x6 : Int} (h0 : 0 ≤ x0) (h1 : 0 ≤ x1) (h2 : 0 ≤ x2) (h3 : 0 ≤ x3) (h4 : 0 ≤ x4) (h5 : 0 ≤ x5) (h6 : 0 ≤ x6) : r_crcSeal_7 x0 x1 x2 x3 x4 x5 x6 = (sealN (words7 x0 x1 x2 x3 x4 x5 x6) : Nat) := by
  show (bif ok_crcSum 56 (rowsF (sealRows x0 x1 x2 x3 x4 x5 x6)) then bits BinOp.or IntKind.u64 4294967296 (IntKind.wrap IntKind.u64 (r_crcSum_0 56 (rowsF (sealRows x0 x1 x2 x3 x4 x5 x6)))) else 0) = _
  rw [sum_ok, cond_true, (crcSum_eq (rowsF (sealRows x0 x1 x2 x3 x4 x5 x6)) (by decide)).2, sum_seal (fun _ h => crcStep_nat h) h0 h1 h2 h3 h4 h5 h6]
  have := crcN_lt (x := 0) (m := 56) (b := byteOf (words7 x0 x1 x2 x3 x4 x5 x6)) (fun j _ => byteOf_lt _ j) (by decide)
  rw [wrap_u64 (by omega) (by omega)]
  have e := u64_or_nat 4294967296 (crcN 0 56 (byteOf (words7 x0 x1 x2 x3 x4 x5 x6))) (by decide) (by omega)
  rw [or_mark this] at e
  exact e

theorem good_ok (x0 x1 x2 x3 x4 x5 x6 x7 : Int) : ok_crcGood x0 x1 x2 x3 x4 x5 x6 x7 = true := by
  show (bif ok_crcSeal x0 x1 x2 x3 x4 x5 x6 x7 then true else false) = true
  rw [ok_seal]; rfl

theorem good_eq {x0 x1 x2 x3 x4 x5 x6 : Int} (x7 : Int) (h0 : 0 ≤ x0) (h1 : 0 ≤ x1) (h2 : 0 ≤ x2) (h3 : 0 ≤ x3) (h4 : 0 ≤ x4) (h5 : 0 ≤ x5) (h6 : 0 ≤ x6) : r_crcGood_0 x0 x1 x2 x3 x4 x5 x6 x7 = (x7 == ((sealN (words7 x0 x1 x2 x3 x4 x5 x6) : Nat) : Int)) := by
  unfold r_crcGood_0
  rw [ok_seal, seal_0, seal_1, seal_2, seal_3, seal_4, seal_5, seal_6, seal_7 h0 h1 h2 h3 h4 h5 h6]
  simp

/-! ### as the document says -/

theorem rsum_ok (x0 x1 x2 x3 x4 x5 x6 : Int) : ok_refSum 56 (rowsF (sealRows x0 x1 x2 x3 x4 x5 x6)) = true := (refSum_eq (rowsF (sealRows x0 x1 x2 x3 x4 x5 x6)) (by decide)).1

theorem ok_rseal (x0 x1 x2 x3 x4 x5 x6 x7 : Int) : ok_refSeal x0 x1 x2 x3 x4 x5 x6 x7 = true := by
  show (bif ok_refSum 56 (rowsF (sealRows x0 x1 x2 x3 x4 x5 x6)) then true else false) = true
  rw [rsum_ok]; rfl
theorem rseal_0 (x0 x1 x2 x3 x4 x5 x6 : Int) : r_refSeal_0 x0 x1 x2 x3 x4 x5 x6 = x0 := by
  show (bif ok_refSum 56 (rowsF (sealRows x0 x1 x2 x3 x4 x5 x6)) then x0 else 0) = x0
  rw [rsum_ok]; rfl
theorem rseal_1 (x0 x1 x2 x3 x4 x5 x6 : Int) : r_refSeal_1 x0 x1 x2 x3 x4 x5 x6 = x1 := by
  show (bif ok_refSum 56 (rowsF (sealRows x0 x1 x2 x3 x4 x5 x6)) then x1 else 0) = x1
  rw [rsum_ok]; rfl
theorem rseal_2 (x0 x1 x2 x3 x4 x5 x6 : Int) : r_refSeal_2 x0 x1 x2 x3 x4 x5 x6 = x2 := by
  show (bif ok_refSum 56 (rowsF (sealRows x0 x1 x2 x3 x4 x5 x6)) then x2 else 0) = x2
  rw [rsum_ok]; rfl
theorem rseal_3 (x0 x1 x2 x3 x4 x5 x6 : Int) : r_refSeal_3 x0 x1 x2 x3 x4 x5 x6 = x3 := by
  show (bif ok_refSum 56 (rowsF (sealRows x0 x1 x2 x3 x4 x5 x6)) then x3 else 0) = x3
  rw [rsum_ok]; rfl
theorem rseal_4 (x0 x1 x2 x3 x4 x5 x6 : Int) : r_refSeal_4 x0 x1 x2 x3 x4 x5 x6 = x4 := by
  show (bif ok_refSum 56 (rowsF (sealRows x0 x1 x2 x3 x4 x5 x6)) then x4 else 0) = x4
  rw [rsum_ok]; rfl
theorem rseal_5 (x0 x1 x2 x3 x4 x5 x6 : Int) : r_refSeal_5 x0 x1 x2 x3 x4 x5 x6 = x5 := by
  show (bif ok_refSum 56 (rowsF (sealRows x0 x1 x2 x3 x4 x5 x6)) then x5 else 0) = x5
  rw [rsum_ok]; rfl
theorem rseal_6 (x0 x1 x2 x3 x4 x5 x6 : Int) : r_refSeal_6 x0 x1 x2 x3 x4 x5 x6 = x6 := by
  show (bif ok_refSum 56 (rowsF (sealRows x0 x1 x2 x3 x4 x5 x6)) then x6 else 0) = x6
  rw [rsum_ok]; rfl
theorem rseal_7 {x0 x1 x2 x3 x4 x5 x6 : Int} (h0 : 0 ≤ x0) (h1 : 0 ≤ x1) (h2 : 0 ≤ x2) (h3 : 0 ≤ x3) (h4 : 0 ≤ x4) (h5 : 0 ≤ x5) (h6 : 0 ≤ x6) : r_refSeal_7 x0 x1 x2 x3 x4 x5 x6 = (sealN (words7 x0 x1 x2 x3 x4 x5 x6) : Nat) := by
  show (bif ok_refSum 56 (rowsF (sealRows x0 x1 x2 x3 x4 x5 x6)) then bits BinOp.or IntKind.u64 (IntKind.wrap IntKind.u64 (r_refSum_0 56 (rowsF (sealRows x0 x1 x2 x3 x4 x5 x6)))) 4294967296 else 0) = _
  rw [rsum_ok, cond_true, (refSum_eq (rowsF (sealRows x0 x1 x2 x3 x4 x5 x6)) (by decide)).2, sum_seal (fun _ h => refStep_nat h) h0 h1 h2 h3 h4 h5 h6]
  have := crcN_lt (x := 0) (m := 56) (b := byteOf (words7 x0 x1 x2 x3 x4 x5 x6)) (fun j _ => byteOf_lt _ j) (by decide)
  rw [wrap_u64 (by omega) (by omega)]
  have e := u64_or_nat (crcN 0 56 (byteOf (words7 x0 x1 x2 x3 x4 x5 x6))) 4294967296 (by omega) (by decide)
  rw [Nat.or_comm, or_mark this] at e
  exact e
end Go.Proofs.Ytgmhggipaopoiaa.G

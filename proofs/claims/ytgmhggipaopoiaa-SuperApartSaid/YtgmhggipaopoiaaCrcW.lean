/-
  A sealed line of which one byte is turned is not good.
-/
import Derived.Test.YtgmhggipaopoiaaG6
import Derived.Test.YtgmhggipaopoiaaCrcV
namespace Go.Proofs.Ytgmhggipaopoiaa.G
open Go Go.AM Go.Proofs

def P8 (k : Nat) : Int := [1, 256, 65536, 16777216, 4294967296, 1099511627776, 281474976710656, 72057594037927936].getD k 0

theorem P8_pow : ∀ k, k < 8 → P8 k = ((2 ^ (8 * k) : Nat) : Int) := by decide

theorem lt8 {k : Nat} (h : k < 8) : k = 0 ∨ k = 1 ∨ k = 2 ∨ k = 3 ∨ k = 4 ∨ k = 5 ∨ k = 6 ∨ k = 7 := by omega

def joinY (B : Nat → Int) (m : Nat) : Int := joinB (B (8 * m + 0)) (B (8 * m + 1)) (B (8 * m + 2)) (B (8 * m + 3)) (B (8 * m + 4)) (B (8 * m + 5)) (B (8 * m + 6)) (B (8 * m + 7))

section
variable {B : Nat → Int} (hB : ∀ k, 0 ≤ B k ∧ B k ≤ 255)
include hB

theorem joinY_lo (m : Nat) : 0 ≤ joinY B m := by
  unfold joinY
  rw [joinB_int (hB _) (hB _) (hB _) (hB _) (hB _) (hB _) (hB _) (hB _)]
  have h0 := hB (8 * m + 0)
  have h1 := hB (8 * m + 1)
  have h2 := hB (8 * m + 2)
  have h3 := hB (8 * m + 3)
  have h4 := hB (8 * m + 4)
  have h5 := hB (8 * m + 5)
  have h6 := hB (8 * m + 6)
  have h7 := hB (8 * m + 7)
  omega

theorem joinY_byte (m k : Nat) (hk : k < 8) : byteAt (joinY B m) (P8 k) = B (8 * m + k) := by
  unfold joinY
  rcases lt8 hk with rfl | rfl | rfl | rfl | rfl | rfl | rfl | rfl
  · exact byte_join0 (hB _) (hB _) (hB _) (hB _) (hB _) (hB _) (hB _) (hB _)
  · exact byte_join1 (hB _) (hB _) (hB _) (hB _) (hB _) (hB _) (hB _) (hB _)
  · exact byte_join2 (hB _) (hB _) (hB _) (hB _) (hB _) (hB _) (hB _) (hB _)
  · exact byte_join3 (hB _) (hB _) (hB _) (hB _) (hB _) (hB _) (hB _) (hB _)
  · exact byte_join4 (hB _) (hB _) (hB _) (hB _) (hB _) (hB _) (hB _) (hB _)
  · exact byte_join5 (hB _) (hB _) (hB _) (hB _) (hB _) (hB _) (hB _) (hB _)
  · exact byte_join6 (hB _) (hB _) (hB _) (hB _) (hB _) (hB _) (hB _) (hB _)
  · exact byte_join7 (hB _) (hB _) (hB _) (hB _) (hB _) (hB _) (hB _) (hB _)
end

theorem joinY_same {B : Nat → Int} {S : Int} (h0 : 0 ≤ S) (h1 : S ≤ 18446744073709551615) {m : Nat} (h : ∀ k, k < 8 → B (8 * m + k) = byteAt S (P8 k)) : joinY B m = S := by
  unfold joinY
  rw [h 0 (by decide), h 1 (by decide), h 2 (by decide), h 3 (by decide), h 4 (by decide), h 5 (by decide), h 6 (by decide), h 7 (by decide)]
  exact join_bytes h0 h1

def W7 (Y : Nat → Int) : Nat → Nat := words7 (Y 0) (Y 1) (Y 2) (Y 3) (Y 4) (Y 5) (Y 6)

theorem W7_at (Y : Nat → Int) (i : Nat) (hi : i < 7) : W7 Y i = (Y i).toNat := by
  rcases lt8 (show i < 8 by omega) with rfl | rfl | rfl | rfl | rfl | rfl | rfl | rfl
  all_goals first | rfl | omega

theorem W7_hi (Y : Nat → Int) (i : Nat) (hi : 7 ≤ i) : W7 Y i = 0 := by
  have h : ([Y 0, Y 1, Y 2, Y 3, Y 4, Y 5, Y 6].getD i 0) = 0 := by
    rw [List.getD_eq_getElem?_getD, List.getElem?_eq_none (by simpa using hi)]
    rfl
  show (([Y 0, Y 1, Y 2, Y 3, Y 4, Y 5, Y 6].getD i 0)).toNat = 0
  rw [h]; rfl

theorem byteOf_W7 (Y : Nat → Int) (hY : ∀ m, 0 ≤ Y m) (j : Nat) (hj : j < 56) : byteOf (W7 Y) j = (byteAt (Y (j / 8)) (P8 (j % 8))).toNat := by
  have h := byte_at (hY (j / 8)) (W7_at Y (j / 8) (by omega)) (j % 8) (by omega) (P8 (j % 8)) (P8_pow _ (by omega))
  rw [show 8 * (j / 8) + j % 8 = j by omega] at h
  unfold byteAt
  rw [h]
  rfl

theorem byteOf_hi (Y : Nat → Int) (j : Nat) (hj : 56 ≤ j) : byteOf (W7 Y) j = 0 := by
  unfold byteOf
  rw [W7_hi Y (j / 8) (by omega)]
  simp

theorem turned_gen {S : Nat → Int} (h0 : ∀ m, 0 ≤ S m) (h1 : ∀ m, S m ≤ 18446744073709551615) (hs : S 7 = ((sealN (W7 S) : Nat) : Int)) {J : Nat} (hJ : J < 64) {c : Int} (hc : 0 ≤ c ∧ c ≤ 255)
    (hne : c ≠ byteAt (S (J / 8)) (P8 (J % 8))) {B : Nat → Int} (hB : ∀ k, B k = bif Nat.beq J k then c else byteAt (S (k / 8)) (P8 (k % 8))) :
    r_crcGood_0 (joinY B 0) (joinY B 1) (joinY B 2) (joinY B 3) (joinY B 4) (joinY B 5) (joinY B 6) (joinY B 7) = false := by
  have bne : ∀ k, k ≠ J → B k = byteAt (S (k / 8)) (P8 (k % 8)) := fun k hk => by
    rw [hB k]
    have : Nat.beq J k = false := by
      cases hb : Nat.beq J k
      · rfl
      · exact absurd (Nat.eq_of_beq_eq_true hb).symm hk
    rw [this]; rfl
  have beq : B J = c := by rw [hB J, Nat.beq_refl]; rfl
  have hb : ∀ k, 0 ≤ B k ∧ B k ≤ 255 := fun k => by
    by_cases hk : k = J
    · subst hk; rw [beq]; exact hc
    · rw [bne k hk]; exact byte_lo _ _
  have lo := joinY_lo hb
  have keep : ∀ m, (∀ k, k < 8 → 8 * m + k ≠ J) → joinY B m = S m := fun m hm => joinY_same (h0 m) (h1 m) fun k hk => by
    rw [bne _ (hm k hk), show (8 * m + k) / 8 = m by omega, show (8 * m + k) % 8 = k by omega]
  rw [good_eq _ (lo 0) (lo 1) (lo 2) (lo 3) (lo 4) (lo 5) (lo 6)]
  rw [beq_eq_false_iff_ne]
  intro he
  have he : joinY B 7 = ((sealN (W7 (joinY B)) : Nat) : Int) := he
  by_cases hj : J < 56
  · rw [keep 7 (fun k _ => by omega), hs] at he
    have he2 : crcN 0 56 (byteOf (W7 S)) = crcN 0 56 (byteOf (W7 (joinY B))) := by
      unfold sealN at he
      omega
    have h3 := crcN_turn (k := J) (fun j _ => byteOf_lt _ j) (fun j _ => byteOf_lt _ j) (by decide) hj (fun j hne => by
      by_cases h56 : j < 56
      · rw [byteOf_W7 S h0 j h56, byteOf_W7 (joinY B) lo j h56, joinY_byte hb _ _ (by omega), show 8 * (j / 8) + j % 8 = j by omega, bne j hne]
      · rw [byteOf_hi S j (by omega), byteOf_hi (joinY B) j (by omega)]) he2
    rw [byteOf_W7 S h0 J hj, byteOf_W7 (joinY B) lo J hj, joinY_byte hb _ _ (by omega), show 8 * (J / 8) + J % 8 = J by omega, beq] at h3
    have := byte_lo (S (J / 8)) (P8 (J % 8))
    omega
  · have hw : W7 (joinY B) = W7 S := by
      unfold W7
      rw [keep 0 (fun k _ => by omega), keep 1 (fun k _ => by omega), keep 2 (fun k _ => by omega), keep 3 (fun k _ => by omega), keep 4 (fun k _ => by omega), keep 5 (fun k _ => by omega), keep 6 (fun k _ => by omega)]
    rw [hw, ← hs] at he
    have h4 := joinY_byte hb 7 (J % 8) (by omega)
    rw [he, show 8 * 7 + J % 8 = J by omega, beq] at h4
    rw [show J / 8 = 7 by omega] at hne
    exact hne h4.symm

theorem xor_ne {a v : Int} (ha : 0 ≤ a ∧ a ≤ 255) (hv : 0 ≤ v ∧ v ≤ 255) (h : v ≠ 0) : bits BinOp.xor IntKind.u8 a v ≠ a := by
  obtain ⟨m, rfl⟩ := Int.eq_ofNat_of_zero_le ha.1
  obtain ⟨n, rfl⟩ := Int.eq_ofNat_of_zero_le hv.1
  rw [u8_xor_nat m n (by omega) (by omega)]
  intro he
  have he : m ^^^ n = m := by exact_mod_cast he
  have h2 : m ^^^ n = m ^^^ 0 := by rw [he, Nat.xor_zero]
  exact h (by rw [xor_left_can h2]; rfl)

theorem xor_byte_lo {a v : Int} (ha : 0 ≤ a ∧ a ≤ 255) (hv : 0 ≤ v ∧ v ≤ 255) : 0 ≤ bits BinOp.xor IntKind.u8 a v ∧ bits BinOp.xor IntKind.u8 a v ≤ 255 := by
  obtain ⟨m, rfl⟩ := Int.eq_ofNat_of_zero_le ha.1
  obtain ⟨n, rfl⟩ := Int.eq_ofNat_of_zero_le hv.1
  rw [u8_xor_nat m n (by omega) (by omega)]
  have := Nat.xor_lt_two_pow (n := 8) (show m < 2 ^ 8 by omega) (show n < 2 ^ 8 by omega)
  omega

def S8 (s0 s1 s2 s3 s4 s5 s6 s7 : Int) : Nat → Int := fun m => [s0, s1, s2, s3, s4, s5, s6, s7].getD m 0

theorem S8_all {s0 s1 s2 s3 s4 s5 s6 s7 : Int} {p : Int → Prop} (h0 : p s0) (h1 : p s1) (h2 : p s2) (h3 : p s3) (h4 : p s4) (h5 : p s5) (h6 : p s6) (h7 : p s7) (hz : p 0) (m : Nat) : p (S8 s0 s1 s2 s3 s4 s5 s6 s7 m) := by
  match m with
  | 0 => exact h0
  | 1 => exact h1
  | 2 => exact h2
  | 3 => exact h3
  | 4 => exact h4
  | 5 => exact h5
  | 6 => exact h6
  | 7 => exact h7
  | n + 8 => exact hz

theorem bytes_at (s0 s1 s2 s3 s4 s5 s6 s7 : Int) : ∀ J, J < 64 → ([r_wordBytes_0 s0, r_wordBytes_1 s0, r_wordBytes_2 s0, r_wordBytes_3 s0, r_wordBytes_4 s0, r_wordBytes_5 s0, r_wordBytes_6 s0, r_wordBytes_7 s0, r_wordBytes_8 s1, r_wordBytes_9 s1, r_wordBytes_10 s1, r_wordBytes_11 s1, r_wordBytes_12 s1, r_wordBytes_13 s1, r_wordBytes_14 s1, r_wordBytes_15 s1, r_wordBytes_16 s2, r_wordBytes_17 s2, r_wordBytes_18 s2, r_wordBytes_19 s2, r_wordBytes_20 s2, r_wordBytes_21 s2, r_wordBytes_22 s2, r_wordBytes_23 s2, r_wordBytes_24 s3, r_wordBytes_25 s3, r_wordBytes_26 s3, r_wordBytes_27 s3, r_wordBytes_28 s3, r_wordBytes_29 s3, r_wordBytes_30 s3, r_wordBytes_31 s3, r_wordBytes_32 s4, r_wordBytes_33 s4, r_wordBytes_34 s4, r_wordBytes_35 s4, r_wordBytes_36 s4, r_wordBytes_37 s4, r_wordBytes_38 s4, r_wordBytes_39 s4, r_wordBytes_40 s5, r_wordBytes_41 s5, r_wordBytes_42 s5, r_wordBytes_43 s5, r_wordBytes_44 s5, r_wordBytes_45 s5, r_wordBytes_46 s5, r_wordBytes_47 s5, r_wordBytes_48 s6, r_wordBytes_49 s6, r_wordBytes_50 s6, r_wordBytes_51 s6, r_wordBytes_52 s6, r_wordBytes_53 s6, r_wordBytes_54 s6, r_wordBytes_55 s6, r_wordBytes_56 s7, r_wordBytes_57 s7, r_wordBytes_58 s7, r_wordBytes_59 s7, r_wordBytes_60 s7, r_wordBytes_61 s7, r_wordBytes_62 s7, r_wordBytes_63 s7] : List Int).getD J 0 = byteAt (S8 s0 s1 s2 s3 s4 s5 s6 s7 (J / 8)) (P8 (J % 8))
  | 0, _ => rfl
  | 1, _ => rfl
  | 2, _ => rfl
  | 3, _ => rfl
  | 4, _ => rfl
  | 5, _ => rfl
  | 6, _ => rfl
  | 7, _ => rfl
  | 8, _ => rfl
  | 9, _ => rfl
  | 10, _ => rfl
  | 11, _ => rfl
  | 12, _ => rfl
  | 13, _ => rfl
  | 14, _ => rfl
  | 15, _ => rfl
  | 16, _ => rfl
  | 17, _ => rfl
  | 18, _ => rfl
  | 19, _ => rfl
  | 20, _ => rfl
  | 21, _ => rfl
  | 22, _ => rfl
  | 23, _ => rfl
  | 24, _ => rfl
  | 25, _ => rfl
  | 26, _ => rfl
  | 27, _ => rfl
  | 28, _ => rfl
  | 29, _ => rfl
  | 30, _ => rfl
  | 31, _ => rfl
  | 32, _ => rfl
  | 33, _ => rfl
  | 34, _ => rfl
  | 35, _ => rfl
  | 36, _ => rfl
  | 37, _ => rfl
  | 38, _ => rfl
  | 39, _ => rfl
  | 40, _ => rfl
  | 41, _ => rfl
  | 42, _ => rfl
  | 43, _ => rfl
  | 44, _ => rfl
  | 45, _ => rfl
  | 46, _ => rfl
  | 47, _ => rfl
  | 48, _ => rfl
  | 49, _ => rfl
  | 50, _ => rfl
  | 51, _ => rfl
  | 52, _ => rfl
  | 53, _ => rfl
  | 54, _ => rfl
  | 55, _ => rfl
  | 56, _ => rfl
  | 57, _ => rfl
  | 58, _ => rfl
  | 59, _ => rfl
  | 60, _ => rfl
  | 61, _ => rfl
  | 62, _ => rfl
  | 63, _ => rfl
  | n + 64, h => absurd h (by omega)

theorem good_turned {s0 s1 s2 s3 s4 s5 s6 s7 : Int} (l0 : 0 ≤ s0) (l1 : 0 ≤ s1) (l2 : 0 ≤ s2) (l3 : 0 ≤ s3) (l4 : 0 ≤ s4) (l5 : 0 ≤ s5) (l6 : 0 ≤ s6) (u0 : s0 ≤ 18446744073709551615) (u1 : s1 ≤ 18446744073709551615) (u2 : s2 ≤ 18446744073709551615) (u3 : s3 ≤ 18446744073709551615) (u4 : s4 ≤ 18446744073709551615) (u5 : s5 ≤ 18446744073709551615) (u6 : s6 ≤ 18446744073709551615)
    (hs : s7 = ((sealN (words7 s0 s1 s2 s3 s4 s5 s6) : Nat) : Int)) {J : Nat} (hJ : J < 64) {v : Int} (hv : 0 ≤ v ∧ v ≤ 255) (hv0 : v ≠ 0) {c : Int}
    (hc : c = bits BinOp.xor IntKind.u8 (([r_wordBytes_0 s0, r_wordBytes_1 s0, r_wordBytes_2 s0, r_wordBytes_3 s0, r_wordBytes_4 s0, r_wordBytes_5 s0, r_wordBytes_6 s0, r_wordBytes_7 s0, r_wordBytes_8 s1, r_wordBytes_9 s1, r_wordBytes_10 s1, r_wordBytes_11 s1, r_wordBytes_12 s1, r_wordBytes_13 s1, r_wordBytes_14 s1, r_wordBytes_15 s1, r_wordBytes_16 s2, r_wordBytes_17 s2, r_wordBytes_18 s2, r_wordBytes_19 s2, r_wordBytes_20 s2, r_wordBytes_21 s2, r_wordBytes_22 s2, r_wordBytes_23 s2, r_wordBytes_24 s3, r_wordBytes_25 s3, r_wordBytes_26 s3, r_wordBytes_27 s3, r_wordBytes_28 s3, r_wordBytes_29 s3, r_wordBytes_30 s3, r_wordBytes_31 s3, r_wordBytes_32 s4, r_wordBytes_33 s4, r_wordBytes_34 s4, r_wordBytes_35 s4, r_wordBytes_36 s4, r_wordBytes_37 s4, r_wordBytes_38 s4, r_wordBytes_39 s4, r_wordBytes_40 s5, r_wordBytes_41 s5, r_wordBytes_42 s5, r_wordBytes_43 s5, r_wordBytes_44 s5, r_wordBytes_45 s5, r_wordBytes_46 s5, r_wordBytes_47 s5, r_wordBytes_48 s6, r_wordBytes_49 s6, r_wordBytes_50 s6, r_wordBytes_51 s6, r_wordBytes_52 s6, r_wordBytes_53 s6, r_wordBytes_54 s6, r_wordBytes_55 s6, r_wordBytes_56 s7, r_wordBytes_57 s7, r_wordBytes_58 s7, r_wordBytes_59 s7, r_wordBytes_60 s7, r_wordBytes_61 s7, r_wordBytes_62 s7, r_wordBytes_63 s7] : List Int).getD J 0) v) :
    r_crcGood_0 (r_wordOfBytes_0 (bif Nat.beq J 0 then c else r_wordBytes_0 s0) (bif Nat.beq J 1 then c else r_wordBytes_1 s0) (bif Nat.beq J 2 then c else r_wordBytes_2 s0) (bif Nat.beq J 3 then c else r_wordBytes_3 s0) (bif Nat.beq J 4 then c else r_wordBytes_4 s0) (bif Nat.beq J 5 then c else r_wordBytes_5 s0) (bif Nat.beq J 6 then c else r_wordBytes_6 s0) (bif Nat.beq J 7 then c else r_wordBytes_7 s0)) (r_wordOfBytes_1 (bif Nat.beq J 8 then c else r_wordBytes_8 s1) (bif Nat.beq J 9 then c else r_wordBytes_9 s1) (bif Nat.beq J 10 then c else r_wordBytes_10 s1) (bif Nat.beq J 11 then c else r_wordBytes_11 s1) (bif Nat.beq J 12 then c else r_wordBytes_12 s1) (bif Nat.beq J 13 then c else r_wordBytes_13 s1) (bif Nat.beq J 14 then c else r_wordBytes_14 s1) (bif Nat.beq J 15 then c else r_wordBytes_15 s1)) (r_wordOfBytes_2 (bif Nat.beq J 16 then c else r_wordBytes_16 s2) (bif Nat.beq J 17 then c else r_wordBytes_17 s2) (bif Nat.beq J 18 then c else r_wordBytes_18 s2) (bif Nat.beq J 19 then c else r_wordBytes_19 s2) (bif Nat.beq J 20 then c else r_wordBytes_20 s2) (bif Nat.beq J 21 then c else r_wordBytes_21 s2) (bif Nat.beq J 22 then c else r_wordBytes_22 s2) (bif Nat.beq J 23 then c else r_wordBytes_23 s2)) (r_wordOfBytes_3 (bif Nat.beq J 24 then c else r_wordBytes_24 s3) (bif Nat.beq J 25 then c else r_wordBytes_25 s3) (bif Nat.beq J 26 then c else r_wordBytes_26 s3) (bif Nat.beq J 27 then c else r_wordBytes_27 s3) (bif Nat.beq J 28 then c else r_wordBytes_28 s3) (bif Nat.beq J 29 then c else r_wordBytes_29 s3) (bif Nat.beq J 30 then c else r_wordBytes_30 s3) (bif Nat.beq J 31 then c else r_wordBytes_31 s3)) (r_wordOfBytes_4 (bif Nat.beq J 32 then c else r_wordBytes_32 s4) (bif Nat.beq J 33 then c else r_wordBytes_33 s4) (bif Nat.beq J 34 then c else r_wordBytes_34 s4) (bif Nat.beq J 35 then c else r_wordBytes_35 s4) (bif Nat.beq J 36 then c else r_wordBytes_36 s4) (bif Nat.beq J 37 then c else r_wordBytes_37 s4) (bif Nat.beq J 38 then c else r_wordBytes_38 s4) (bif Nat.beq J 39 then c else r_wordBytes_39 s4)) (r_wordOfBytes_5 (bif Nat.beq J 40 then c else r_wordBytes_40 s5) (bif Nat.beq J 41 then c else r_wordBytes_41 s5) (bif Nat.beq J 42 then c else r_wordBytes_42 s5) (bif Nat.beq J 43 then c else r_wordBytes_43 s5) (bif Nat.beq J 44 then c else r_wordBytes_44 s5) (bif Nat.beq J 45 then c else r_wordBytes_45 s5) (bif Nat.beq J 46 then c else r_wordBytes_46 s5) (bif Nat.beq J 47 then c else r_wordBytes_47 s5)) (r_wordOfBytes_6 (bif Nat.beq J 48 then c else r_wordBytes_48 s6) (bif Nat.beq J 49 then c else r_wordBytes_49 s6) (bif Nat.beq J 50 then c else r_wordBytes_50 s6) (bif Nat.beq J 51 then c else r_wordBytes_51 s6) (bif Nat.beq J 52 then c else r_wordBytes_52 s6) (bif Nat.beq J 53 then c else r_wordBytes_53 s6) (bif Nat.beq J 54 then c else r_wordBytes_54 s6) (bif Nat.beq J 55 then c else r_wordBytes_55 s6)) (r_wordOfBytes_7 (bif Nat.beq J 56 then c else r_wordBytes_56 s7) (bif Nat.beq J 57 then c else r_wordBytes_57 s7) (bif Nat.beq J 58 then c else r_wordBytes_58 s7) (bif Nat.beq J 59 then c else r_wordBytes_59 s7) (bif Nat.beq J 60 then c else r_wordBytes_60 s7) (bif Nat.beq J 61 then c else r_wordBytes_61 s7) (bif Nat.beq J 62 then c else r_wordBytes_62 s7) (bif Nat.beq J 63 then c else r_wordBytes_63 s7)) = false := by
  have u7 : s7 ≤ 18446744073709551615 := by have := sealN_lt (words7 s0 s1 s2 s3 s4 s5 s6); omega
  have l7 : 0 ≤ s7 := by omega
  rw [bytes_at s0 s1 s2 s3 s4 s5 s6 s7 J hJ] at hc
  have hb := byte_lo (S8 s0 s1 s2 s3 s4 s5 s6 s7 (J / 8)) (P8 (J % 8))
  exact turned_gen (S := S8 s0 s1 s2 s3 s4 s5 s6 s7) (S8_all (p := fun x => 0 ≤ x) l0 l1 l2 l3 l4 l5 l6 l7 (by decide)) (S8_all (p := fun x => x ≤ 18446744073709551615) u0 u1 u2 u3 u4 u5 u6 u7 (by decide)) hs hJ
    (hc ▸ xor_byte_lo hb hv) (hc ▸ xor_ne hb hv hv0) (B := fun k => bif Nat.beq J k then c else byteAt (S8 s0 s1 s2 s3 s4 s5 s6 s7 (k / 8)) (P8 (k % 8))) (fun _ => rfl)
end Go.Proofs.Ytgmhggipaopoiaa.G

/-
  The plain law of RegsBack.
-/
import Derived.Test.YtpllgemflpnioaaG4
import Derived.Test.YtpllgemflpnioaaV0
namespace Go.Proofs.Ytpllgemflpnioaa.G
open Go Go.AM Go.Proofs

theorem field_mod (n a d : Nat) : fieldN n a d = n / 2 ^ a % 2 ^ d := by
  unfold fieldN
  exact Nat.and_two_pow_sub_one_eq_mod _ _

theorem part_eq {n a d : Nat} (hn : n < 18446744073709551616) (hd : 1 ≤ d) (hd2 : d ≤ 32) (h : a + d ≤ 64) : r_gPart_0 (a : Int) (d : Int) (n : Int) = ((n / 2 ^ a % 2 ^ d : Nat) : Int) := by
  obtain ⟨h1, h2⟩ := wField_eq hn hd h
  have e1 : ok_wField_ (n : Int) (a : Int) (d : Int) = true := h2
  have e2 : r_wField__0 (n : Int) (a : Int) (d : Int) = (fieldN n a d : Int) := h1
  unfold r_gPart_0
  rw [e1, e2, cond_true]
  have hl := fieldN_lt n a d
  have : 2 ^ d ≤ 2 ^ 32 := Nat.pow_le_pow_right (by decide) hd2
  rw [wrap_i64 (by omega) (by omega), field_mod]

theorem okp {a d : Int} (h : ∀ x, ok_wField_ x a d = true) (l0 l1 l2 l3 l4 l5 l6 l7 : Int) : ok_gPart a d l0 l1 l2 l3 l4 l5 l6 l7 = true := by
  unfold ok_gPart
  rw [h]; rfl
theorem qa (l0 l1 l2 l3 l4 l5 l6 l7 : Int) : ok_gPart 0 4 l0 l1 l2 l3 l4 l5 l6 l7 = true := okp (fun _ => rfl) _ _ _ _ _ _ _ _
theorem qb (l0 l1 l2 l3 l4 l5 l6 l7 : Int) : ok_gPart 4 16 l0 l1 l2 l3 l4 l5 l6 l7 = true := okp (fun _ => rfl) _ _ _ _ _ _ _ _
theorem qc (l0 l1 l2 l3 l4 l5 l6 l7 : Int) : ok_gPart 20 4 l0 l1 l2 l3 l4 l5 l6 l7 = true := okp (fun _ => rfl) _ _ _ _ _ _ _ _
theorem qd (l0 l1 l2 l3 l4 l5 l6 l7 : Int) : ok_gPart 24 1 l0 l1 l2 l3 l4 l5 l6 l7 = true := okp (fun _ => rfl) _ _ _ _ _ _ _ _

theorem ok_of (l0 l1 l2 l3 l4 l5 l6 l7 : Int) : ok_gOf l0 l1 l2 l3 l4 l5 l6 l7 = true := by
  unfold ok_gOf
  simp only [qa, qb, qc, qd, cond_true, Bool.cond_self]

theorem two {b c : Bool} (h : (bif b then false else bif !c then false else true) = true) : b = false ∧ c = true := by
  cases b <;> cases c <;> simp_all

theorem of_back {l0 l1 l2 l3 l4 l5 l6 l7 : Int} (h : r_gOf_11 l0 l1 l2 l3 l4 l5 l6 l7 = true) : r_gLine_8 (r_gOf_0 l0 l1 l2 l3 l4 l5 l6 l7) (r_gOf_7 l0 l1 l2 l3 l4 l5 l6 l7) (r_gOf_8 l0 l1 l2 l3 l4 l5 l6 l7) (r_gOf_9 l0 l1 l2 l3 l4 l5 l6 l7) (r_gOf_10 l0 l1 l2 l3 l4 l5 l6 l7) = 0 ∧ r_gLine_0 (r_gOf_0 l0 l1 l2 l3 l4 l5 l6 l7) (r_gOf_7 l0 l1 l2 l3 l4 l5 l6 l7) (r_gOf_8 l0 l1 l2 l3 l4 l5 l6 l7) (r_gOf_9 l0 l1 l2 l3 l4 l5 l6 l7) (r_gOf_10 l0 l1 l2 l3 l4 l5 l6 l7) = l0 ∧ r_gLine_1 (r_gOf_0 l0 l1 l2 l3 l4 l5 l6 l7) (r_gOf_1 l0 l1 l2 l3 l4 l5 l6 l7) (r_gOf_7 l0 l1 l2 l3 l4 l5 l6 l7) (r_gOf_8 l0 l1 l2 l3 l4 l5 l6 l7) (r_gOf_9 l0 l1 l2 l3 l4 l5 l6 l7) (r_gOf_10 l0 l1 l2 l3 l4 l5 l6 l7) = l1 ∧ r_gLine_2 (r_gOf_0 l0 l1 l2 l3 l4 l5 l6 l7) (r_gOf_2 l0 l1 l2 l3 l4 l5 l6 l7) (r_gOf_7 l0 l1 l2 l3 l4 l5 l6 l7) (r_gOf_8 l0 l1 l2 l3 l4 l5 l6 l7) (r_gOf_9 l0 l1 l2 l3 l4 l5 l6 l7) (r_gOf_10 l0 l1 l2 l3 l4 l5 l6 l7) = l2 ∧ r_gLine_3 (r_gOf_0 l0 l1 l2 l3 l4 l5 l6 l7) (r_gOf_3 l0 l1 l2 l3 l4 l5 l6 l7) (r_gOf_7 l0 l1 l2 l3 l4 l5 l6 l7) (r_gOf_8 l0 l1 l2 l3 l4 l5 l6 l7) (r_gOf_9 l0 l1 l2 l3 l4 l5 l6 l7) (r_gOf_10 l0 l1 l2 l3 l4 l5 l6 l7) = l3 ∧ r_gLine_4 (r_gOf_0 l0 l1 l2 l3 l4 l5 l6 l7) (r_gOf_4 l0 l1 l2 l3 l4 l5 l6 l7) (r_gOf_7 l0 l1 l2 l3 l4 l5 l6 l7) (r_gOf_8 l0 l1 l2 l3 l4 l5 l6 l7) (r_gOf_9 l0 l1 l2 l3 l4 l5 l6 l7) (r_gOf_10 l0 l1 l2 l3 l4 l5 l6 l7) = l4 ∧ r_gLine_5 (r_gOf_0 l0 l1 l2 l3 l4 l5 l6 l7) (r_gOf_5 l0 l1 l2 l3 l4 l5 l6 l7) (r_gOf_7 l0 l1 l2 l3 l4 l5 l6 l7) (r_gOf_8 l0 l1 l2 l3 l4 l5 l6 l7) (r_gOf_9 l0 l1 l2 l3 l4 l5 l6 l7) (r_gOf_10 l0 l1 l2 l3 l4 l5 l6 l7) = l5 ∧ r_gLine_6 (r_gOf_0 l0 l1 l2 l3 l4 l5 l6 l7) (r_gOf_6 l0 l1 l2 l3 l4 l5 l6 l7) (r_gOf_7 l0 l1 l2 l3 l4 l5 l6 l7) (r_gOf_8 l0 l1 l2 l3 l4 l5 l6 l7) (r_gOf_9 l0 l1 l2 l3 l4 l5 l6 l7) (r_gOf_10 l0 l1 l2 l3 l4 l5 l6 l7) = l6 ∧ r_gLine_7 (r_gOf_0 l0 l1 l2 l3 l4 l5 l6 l7) (r_gOf_7 l0 l1 l2 l3 l4 l5 l6 l7) (r_gOf_8 l0 l1 l2 l3 l4 l5 l6 l7) (r_gOf_9 l0 l1 l2 l3 l4 l5 l6 l7) (r_gOf_10 l0 l1 l2 l3 l4 l5 l6 l7) = l7 := by
  unfold r_gOf_11 at h
  simp only [qa, qb, qc, qd, cond_true] at h
  cases hA : (r_wNumber_1 l0 1099511627776 != 0) with
  | true => rw [hA] at h; cases h
  | false =>
    rw [hA, cond_false] at h
    obtain ⟨hB, hC⟩ := two h
    simp only [r_gOf_0, r_gOf_1, r_gOf_2, r_gOf_3, r_gOf_4, r_gOf_5, r_gOf_6, r_gOf_7, r_gOf_8, r_gOf_9, r_gOf_10, r_gOf_11, hA, hB, hC, qa, qb, qc, qd, cond_true, cond_false, Bool.not_true]
    simp only [Bool.and_eq_true, beq_iff_eq, and_true] at hC
    rw [bne_eq_false_iff_eq] at hB
    exact ⟨hB, hC⟩

theorem of_line {x0 x1 x2 x3 x4 x5 x6 x7 x8 x9 x10 : Int} (ha : gb x0 x7 x8 x9 x10 = true) : r_gOf_11 (r_gLine_0 x0 x7 x8 x9 x10) (r_gLine_1 x0 x1 x7 x8 x9 x10) (r_gLine_2 x0 x2 x7 x8 x9 x10) (r_gLine_3 x0 x3 x7 x8 x9 x10) (r_gLine_4 x0 x4 x7 x8 x9 x10) (r_gLine_5 x0 x5 x7 x8 x9 x10) (r_gLine_6 x0 x6 x7 x8 x9 x10) (r_gLine_7 x0 x7 x8 x9 x10) = true ∧ r_gOf_0 (r_gLine_0 x0 x7 x8 x9 x10) (r_gLine_1 x0 x1 x7 x8 x9 x10) (r_gLine_2 x0 x2 x7 x8 x9 x10) (r_gLine_3 x0 x3 x7 x8 x9 x10) (r_gLine_4 x0 x4 x7 x8 x9 x10) (r_gLine_5 x0 x5 x7 x8 x9 x10) (r_gLine_6 x0 x6 x7 x8 x9 x10) (r_gLine_7 x0 x7 x8 x9 x10) = x0 ∧ r_gOf_1 (r_gLine_0 x0 x7 x8 x9 x10) (r_gLine_1 x0 x1 x7 x8 x9 x10) (r_gLine_2 x0 x2 x7 x8 x9 x10) (r_gLine_3 x0 x3 x7 x8 x9 x10) (r_gLine_4 x0 x4 x7 x8 x9 x10) (r_gLine_5 x0 x5 x7 x8 x9 x10) (r_gLine_6 x0 x6 x7 x8 x9 x10) (r_gLine_7 x0 x7 x8 x9 x10) = x1 ∧ r_gOf_2 (r_gLine_0 x0 x7 x8 x9 x10) (r_gLine_1 x0 x1 x7 x8 x9 x10) (r_gLine_2 x0 x2 x7 x8 x9 x10) (r_gLine_3 x0 x3 x7 x8 x9 x10) (r_gLine_4 x0 x4 x7 x8 x9 x10) (r_gLine_5 x0 x5 x7 x8 x9 x10) (r_gLine_6 x0 x6 x7 x8 x9 x10) (r_gLine_7 x0 x7 x8 x9 x10) = x2 ∧ r_gOf_3 (r_gLine_0 x0 x7 x8 x9 x10) (r_gLine_1 x0 x1 x7 x8 x9 x10) (r_gLine_2 x0 x2 x7 x8 x9 x10) (r_gLine_3 x0 x3 x7 x8 x9 x10) (r_gLine_4 x0 x4 x7 x8 x9 x10) (r_gLine_5 x0 x5 x7 x8 x9 x10) (r_gLine_6 x0 x6 x7 x8 x9 x10) (r_gLine_7 x0 x7 x8 x9 x10) = x3 ∧ r_gOf_4 (r_gLine_0 x0 x7 x8 x9 x10) (r_gLine_1 x0 x1 x7 x8 x9 x10) (r_gLine_2 x0 x2 x7 x8 x9 x10) (r_gLine_3 x0 x3 x7 x8 x9 x10) (r_gLine_4 x0 x4 x7 x8 x9 x10) (r_gLine_5 x0 x5 x7 x8 x9 x10) (r_gLine_6 x0 x6 x7 x8 x9 x10) (r_gLine_7 x0 x7 x8 x9 x10) = x4 ∧ r_gOf_5 (r_gLine_0 x0 x7 x8 x9 x10) (r_gLine_1 x0 x1 x7 x8 x9 x10) (r_gLine_2 x0 x2 x7 x8 x9 x10) (r_gLine_3 x0 x3 x7 x8 x9 x10) (r_gLine_4 x0 x4 x7 x8 x9 x10) (r_gLine_5 x0 x5 x7 x8 x9 x10) (r_gLine_6 x0 x6 x7 x8 x9 x10) (r_gLine_7 x0 x7 x8 x9 x10) = x5 ∧ r_gOf_6 (r_gLine_0 x0 x7 x8 x9 x10) (r_gLine_1 x0 x1 x7 x8 x9 x10) (r_gLine_2 x0 x2 x7 x8 x9 x10) (r_gLine_3 x0 x3 x7 x8 x9 x10) (r_gLine_4 x0 x4 x7 x8 x9 x10) (r_gLine_5 x0 x5 x7 x8 x9 x10) (r_gLine_6 x0 x6 x7 x8 x9 x10) (r_gLine_7 x0 x7 x8 x9 x10) = x6 ∧ r_gOf_7 (r_gLine_0 x0 x7 x8 x9 x10) (r_gLine_1 x0 x1 x7 x8 x9 x10) (r_gLine_2 x0 x2 x7 x8 x9 x10) (r_gLine_3 x0 x3 x7 x8 x9 x10) (r_gLine_4 x0 x4 x7 x8 x9 x10) (r_gLine_5 x0 x5 x7 x8 x9 x10) (r_gLine_6 x0 x6 x7 x8 x9 x10) (r_gLine_7 x0 x7 x8 x9 x10) = x7 ∧ r_gOf_8 (r_gLine_0 x0 x7 x8 x9 x10) (r_gLine_1 x0 x1 x7 x8 x9 x10) (r_gLine_2 x0 x2 x7 x8 x9 x10) (r_gLine_3 x0 x3 x7 x8 x9 x10) (r_gLine_4 x0 x4 x7 x8 x9 x10) (r_gLine_5 x0 x5 x7 x8 x9 x10) (r_gLine_6 x0 x6 x7 x8 x9 x10) (r_gLine_7 x0 x7 x8 x9 x10) = x8 ∧ r_gOf_9 (r_gLine_0 x0 x7 x8 x9 x10) (r_gLine_1 x0 x1 x7 x8 x9 x10) (r_gLine_2 x0 x2 x7 x8 x9 x10) (r_gLine_3 x0 x3 x7 x8 x9 x10) (r_gLine_4 x0 x4 x7 x8 x9 x10) (r_gLine_5 x0 x5 x7 x8 x9 x10) (r_gLine_6 x0 x6 x7 x8 x9 x10) (r_gLine_7 x0 x7 x8 x9 x10) = x9 ∧ r_gOf_10 (r_gLine_0 x0 x7 x8 x9 x10) (r_gLine_1 x0 x1 x7 x8 x9 x10) (r_gLine_2 x0 x2 x7 x8 x9 x10) (r_gLine_3 x0 x3 x7 x8 x9 x10) (r_gLine_4 x0 x4 x7 x8 x9 x10) (r_gLine_5 x0 x5 x7 x8 x9 x10) (r_gLine_6 x0 x6 x7 x8 x9 x10) (r_gLine_7 x0 x7 x8 x9 x10) = x10 := by
  obtain ⟨a1, a2, a3, a4, a5, a6, a7, a8, a9, a10⟩ := gb_lo ha
  have e0 : r_gLine_0 x0 x7 x8 x9 x10 = x0 := by rw [g0, ha, cond_true, wrap_u64 (by omega) (by omega)]
  have e1 : r_gLine_1 x0 x1 x7 x8 x9 x10 = x1 := by rw [g1, ha]; rfl
  have e2 : r_gLine_2 x0 x2 x7 x8 x9 x10 = x2 := by rw [g2, ha]; rfl
  have e3 : r_gLine_3 x0 x3 x7 x8 x9 x10 = x3 := by rw [g3, ha]; rfl
  have e4 : r_gLine_4 x0 x4 x7 x8 x9 x10 = x4 := by rw [g4, ha]; rfl
  have e5 : r_gLine_5 x0 x5 x7 x8 x9 x10 = x5 := by rw [g5, ha]; rfl
  have e6 : r_gLine_6 x0 x6 x7 x8 x9 x10 = x6 := by rw [g6, ha]; rfl
  have e8 : r_gLine_8 x0 x7 x8 x9 x10 = 0 := by rw [g8, ha]; rfl
  have e7 := g7 ha
  obtain ⟨n, hn⟩ := Int.eq_ofNat_of_zero_le (show 0 ≤ x7 + x8 * 16 + x9 * 1048576 + x10 * 16777216 by omega)
  have en : r_gLine_7 x0 x7 x8 x9 x10 = (n : Int) := by rw [e7, hn]
  have hl : n < 18446744073709551616 := by omega
  have pa : r_gPart_0 0 4 (r_gLine_7 x0 x7 x8 x9 x10) = x7 := by rw [en]; refine (part_eq (a := 0) (d := 4) hl (by decide) (by decide) (by decide)).trans ?_; simp only [Nat.reducePow]; omega
  have pb : r_gPart_0 4 16 (r_gLine_7 x0 x7 x8 x9 x10) = x8 := by rw [en]; refine (part_eq (a := 4) (d := 16) hl (by decide) (by decide) (by decide)).trans ?_; simp only [Nat.reducePow]; omega
  have pc : r_gPart_0 20 4 (r_gLine_7 x0 x7 x8 x9 x10) = x9 := by rw [en]; refine (part_eq (a := 20) (d := 4) hl (by decide) (by decide) (by decide)).trans ?_; simp only [Nat.reducePow]; omega
  have pd : r_gPart_0 24 1 (r_gLine_7 x0 x7 x8 x9 x10) = x10 := by rw [en]; refine (part_eq (a := 24) (d := 1) hl (by decide) (by decide) (by decide)).trans ?_; simp only [Nat.reducePow]; omega
  have hw : IntKind.wrap IntKind.u64 1099511627776 = 1099511627776 := by decide
  have hx : decide (x0 > 1099511627776) = false := by rw [decide_eq_false_iff_not]; omega
  have n0 : r_wNumber_0 x0 1099511627776 = x0 := by
    unfold r_wNumber_0
    rw [hw, hx, cond_false, wrap_i64 (by omega) (by omega)]
    rfl
  have n1 : r_wNumber_1 x0 1099511627776 = 0 := by
    unfold r_wNumber_1
    rw [hw, hx]
    rfl
  have f1 : ((0 : Int) != 0) = false := rfl
  simp only [e0, e1, e2, e3, e4, e5, e6]
  simp only [r_gOf_0, r_gOf_1, r_gOf_2, r_gOf_3, r_gOf_4, r_gOf_5, r_gOf_6, r_gOf_7, r_gOf_8, r_gOf_9, r_gOf_10, r_gOf_11, n0, n1, pa, pb, pc, pd, qa, qb, qc, qd, e0, e1, e2, e3, e4, e5, e6, e8, f1, cond_true, cond_false, beq_self_eq_true, Bool.and_self, Bool.not_true, and_self]

theorem s0_ok (x0 x1 x2 x3 x4 x5 x6 x7 x8 x9 x10 x11 x12 x13 x14 x15 x16 x17 x18 : Int) (hz : gb x0 x7 x8 x9 x10 = true ∨ (r_gLine_0 x0 x7 x8 x9 x10 == (0 : Int) && (r_gLine_1 x0 x1 x7 x8 x9 x10 == (0 : Int) && (r_gLine_2 x0 x2 x7 x8 x9 x10 == (0 : Int) && (r_gLine_3 x0 x3 x7 x8 x9 x10 == (0 : Int) && (r_gLine_4 x0 x4 x7 x8 x9 x10 == (0 : Int) && (r_gLine_5 x0 x5 x7 x8 x9 x10 == (0 : Int) && (r_gLine_6 x0 x6 x7 x8 x9 x10 == (0 : Int) && (r_gLine_7 x0 x7 x8 x9 x10 == (0 : Int) && true)))))))) = true ∧ gb x0 x7 x8 x9 x10 = false) :
    (T_RegsBack_s0 x0 x1 x2 x3 x4 x5 x6 x7 x8 x9 x10 x11 x12 x13 x14 x15 x16 x17 x18).sat fun r => r = [.b true] := by
  unfold T_RegsBack_s0
  cases hk : r_gOf_11 x11 x12 x13 x14 x15 x16 x17 x18 with
  | false =>
    rcases hz with ha | ⟨hc, ha⟩
    · exact brF (by rw [g8, ha]; rfl) (brT (ok_of _ _ _ _ _ _ _ _) (brT rfl ⟨_, rfl, rfl⟩))
    · exact brT (by rw [g8, ha]; rfl) (brF (by rw [hc]; rfl) (brT (ok_of _ _ _ _ _ _ _ _) (brT rfl ⟨_, rfl, rfl⟩)))
  | true =>
    obtain ⟨b8, b0, b1, b2, b3, b4, b5, b6, b7⟩ := of_back hk
    rcases hz with ha | ⟨hc, ha⟩
    · refine brF (by rw [g8, ha]; rfl) (brT (ok_of _ _ _ _ _ _ _ _) (brF rfl (brT (by rw [b8]; rfl) ⟨_, rfl, congrArg (fun b => [At.b b]) ?_⟩)))
      simp only [b0, b1, b2, b3, b4, b5, b6, b7, beq_self_eq_true, Bool.and_self]
    · refine brT (by rw [g8, ha]; rfl) (brF (by rw [hc]; rfl) (brT (ok_of _ _ _ _ _ _ _ _) (brF rfl (brT (by rw [b8]; rfl) ⟨_, rfl, congrArg (fun b => [At.b b]) ?_⟩))))
      simp only [b0, b1, b2, b3, b4, b5, b6, b7, beq_self_eq_true, Bool.and_self]

theorem vc_RegsBack (x0 x1 x2 x3 x4 x5 x6 x7 x8 x9 x10 x11 x12 x13 x14 x15 x16 x17 x18 : Int) (h0 : IntKind.min .i64 ≤ x0) (k0 : x0 ≤ IntKind.max .i64) (h1 : IntKind.min .u64 ≤ x1) (k1 : x1 ≤ IntKind.max .u64) (h2 : IntKind.min .u64 ≤ x2) (k2 : x2 ≤ IntKind.max .u64) (h3 : IntKind.min .u64 ≤ x3) (k3 : x3 ≤ IntKind.max .u64) (h4 : IntKind.min .u64 ≤ x4) (k4 : x4 ≤ IntKind.max .u64) (h5 : IntKind.min .u64 ≤ x5) (k5 : x5 ≤ IntKind.max .u64) (h6 : IntKind.min .u64 ≤ x6) (k6 : x6 ≤ IntKind.max .u64) (h7 : IntKind.min .i64 ≤ x7) (k7 : x7 ≤ IntKind.max .i64) (h8 : IntKind.min .i64 ≤ x8) (k8 : x8 ≤ IntKind.max .i64) (h9 : IntKind.min .i64 ≤ x9) (k9 : x9 ≤ IntKind.max .i64) (h10 : IntKind.min .i64 ≤ x10) (k10 : x10 ≤ IntKind.max .i64) (h11 : IntKind.min .u64 ≤ x11) (k11 : x11 ≤ IntKind.max .u64) (h12 : IntKind.min .u64 ≤ x12) (k12 : x12 ≤ IntKind.max .u64) (h13 : IntKind.min .u64 ≤ x13) (k13 : x13 ≤ IntKind.max .u64) (h14 : IntKind.min .u64 ≤ x14) (k14 : x14 ≤ IntKind.max .u64) (h15 : IntKind.min .u64 ≤ x15) (k15 : x15 ≤ IntKind.max .u64) (h16 : IntKind.min .u64 ≤ x16) (k16 : x16 ≤ IntKind.max .u64) (h17 : IntKind.min .u64 ≤ x17) (k17 : x17 ≤ IntKind.max .u64) (h18 : IntKind.min .u64 ≤ x18) (k18 : x18 ≤ IntKind.max .u64) :
    (T_RegsBack x0 x1 x2 x3 x4 x5 x6 x7 x8 x9 x10 x11 x12 x13 x14 x15 x16 x17 x18).sat fun r => r = [.b true] := by
  unfold T_RegsBack
  refine brT rfl (brT (ok_of _ _ _ _ _ _ _ _) ?_)
  cases ha : gb x0 x7 x8 x9 x10 with
  | false =>
    have e7 : r_gLine_7 x0 x7 x8 x9 x10 = 0 := by
      have := ha
      unfold gb at this
      unfold r_gLine_7
      rw [chain2, this]; rfl
    refine brF (by rw [g8, ha]; rfl) (s0_ok x0 x1 x2 x3 x4 x5 x6 x7 x8 x9 x10 x11 x12 x13 x14 x15 x16 x17 x18 (.inr ⟨?_, ha⟩))
    simp only [g0, g1, g2, g3, g4, g5, g6, e7, ha, cond_false, beq_self_eq_true, Bool.and_self]
  | true =>
    obtain ⟨q, c0, c1, c2, c3, c4, c5, c6, c7, c8, c9, c10⟩ := of_line (x1 := x1) (x2 := x2) (x3 := x3) (x4 := x4) (x5 := x5) (x6 := x6) ha
    refine brT (by rw [g8, ha]; rfl) (brF (by rw [q]; rfl) (brF ?_ (s0_ok x0 x1 x2 x3 x4 x5 x6 x7 x8 x9 x10 x11 x12 x13 x14 x15 x16 x17 x18 (.inl ha))))
    simp only [c0, c1, c2, c3, c4, c5, c6, c7, c8, c9, c10, beq_self_eq_true, Bool.and_self, Bool.not_true]
end Go.Proofs.Ytpllgemflpnioaa.G

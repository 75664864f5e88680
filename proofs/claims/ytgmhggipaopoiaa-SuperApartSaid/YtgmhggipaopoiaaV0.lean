/-
  What the laws of super blocks lean on.
-/
import Derived.Test.YtgmhggipaopoiaaG1
import Derived.Test.YtgmhggipaopoiaaCrcV
namespace Go.Proofs.Ytgmhggipaopoiaa.G
open Go Go.AM Go.Proofs

theorem within_eq (x a b : Int) : r_within__0 x a b = decide (a ≤ x ∧ x ≤ b) := by
  unfold r_within__0
  rw [Bool.eq_iff_iff]
  by_cases h : x ≥ a
  · simp [h]
  · simp [h]

def sb (x0 x1 x2 x3 : Int) : Bool := decide (1 ≤ x0 ∧ x0 ≤ 1099511627776 ∧ 0 ≤ x1 ∧ x1 ≤ 1023 ∧ 0 ≤ x2 ∧ x2 ≤ 1099511627776 ∧ 1 ≤ x3 ∧ x3 ≤ 8)

theorem chain4 {α : Type} (a b c d : Bool) (z v y : α) : (bif !a then z else bif !b then z else bif !c then z else bif !d then z else bif true then v else y) = bif (a && (b && (c && d))) then v else z := by
  cases a <;> cases b <;> cases c <;> cases d <;> rfl

theorem chain8 {α : Type} (a b c d e f g h : Bool) (z v y : α) : (bif a then z else bif b then z else bif c then z else bif d then z else bif e then z else bif f then z else bif g then z else bif h then z else bif true then v else y)
    = bif (!a && (!b && (!c && (!d && (!e && (!f && (!g && !h))))))) then v else z := by
  cases a <;> cases b <;> cases c <;> cases d <;> cases e <;> cases f <;> cases g <;> cases h <;> rfl

theorem sb_s (x0 x1 x2 x3 : Int) : (r_within__0 x0 1 1099511627776 && (r_within__0 x1 0 1023 && (r_within__0 x2 0 1099511627776 && r_within__0 x3 1 8))) = sb x0 x1 x2 x3 := by
  simp only [within_eq, sb]
  rw [Bool.eq_iff_iff]
  simp only [Bool.and_eq_true, decide_eq_true_eq]
  omega

theorem sb_r (x0 x1 x2 x3 : Int) : (!decide (x0 < 1) && (!decide (x0 > 1099511627776) && (!decide (x1 < 0) && (!decide (x1 ≥ 1024) && (!decide (x2 < 0) && (!decide (x2 > 1099511627776) && (!decide (x3 < 1) && !decide (x3 > 8)))))))) = sb x0 x1 x2 x3 := by
  simp only [sb]
  rw [Bool.eq_iff_iff]
  simp only [Bool.and_eq_true, Bool.not_eq_true', decide_eq_true_eq, decide_eq_false_iff_not]
  omega

theorem wu (x : Int) : 0 ≤ IntKind.wrap IntKind.u64 x := by
  rw [wrap_u64_mod]; omega

def sealS (x0 x1 x2 x3 : Int) : Nat := sealN (words7 1526644958 (IntKind.wrap IntKind.u64 x0) (IntKind.wrap IntKind.u64 x1) (IntKind.wrap IntKind.u64 x2) (IntKind.wrap IntKind.u64 x3) 0 0)

theorem s0 (x0 x1 x2 x3 : Int) : r_sLine_0 x0 x1 x2 x3 = bif sb x0 x1 x2 x3 then 1526644958 else 0 := by
  unfold r_sLine_0
  rw [ok_seal, chain4, sb_s, seal_0]
theorem t0 (x0 x1 x2 x3 : Int) : r_rLine_0 x0 x1 x2 x3 = r_sLine_0 x0 x1 x2 x3 := by
  rw [s0]
  unfold r_rLine_0
  rw [ok_rseal, chain8, sb_r, rseal_0]

theorem s1 (x0 x1 x2 x3 : Int) : r_sLine_1 x0 x1 x2 x3 = bif sb x0 x1 x2 x3 then IntKind.wrap IntKind.u64 x0 else 0 := by
  unfold r_sLine_1
  rw [ok_seal, chain4, sb_s, seal_1]
theorem t1 (x0 x1 x2 x3 : Int) : r_rLine_1 x0 x1 x2 x3 = r_sLine_1 x0 x1 x2 x3 := by
  rw [s1]
  unfold r_rLine_1
  rw [ok_rseal, chain8, sb_r, rseal_1]

theorem s2 (x0 x1 x2 x3 : Int) : r_sLine_2 x0 x1 x2 x3 = bif sb x0 x1 x2 x3 then IntKind.wrap IntKind.u64 x1 else 0 := by
  unfold r_sLine_2
  rw [ok_seal, chain4, sb_s, seal_2]
theorem t2 (x0 x1 x2 x3 : Int) : r_rLine_2 x0 x1 x2 x3 = r_sLine_2 x0 x1 x2 x3 := by
  rw [s2]
  unfold r_rLine_2
  rw [ok_rseal, chain8, sb_r, rseal_2]

theorem s3 (x0 x1 x2 x3 : Int) : r_sLine_3 x0 x1 x2 x3 = bif sb x0 x1 x2 x3 then IntKind.wrap IntKind.u64 x2 else 0 := by
  unfold r_sLine_3
  rw [ok_seal, chain4, sb_s, seal_3]
theorem t3 (x0 x1 x2 x3 : Int) : r_rLine_3 x0 x1 x2 x3 = r_sLine_3 x0 x1 x2 x3 := by
  rw [s3]
  unfold r_rLine_3
  rw [ok_rseal, chain8, sb_r, rseal_3]

theorem s4 (x0 x1 x2 x3 : Int) : r_sLine_4 x0 x1 x2 x3 = bif sb x0 x1 x2 x3 then IntKind.wrap IntKind.u64 x3 else 0 := by
  unfold r_sLine_4
  rw [ok_seal, chain4, sb_s, seal_4]
theorem t4 (x0 x1 x2 x3 : Int) : r_rLine_4 x0 x1 x2 x3 = r_sLine_4 x0 x1 x2 x3 := by
  rw [s4]
  unfold r_rLine_4
  rw [ok_rseal, chain8, sb_r, rseal_4]

theorem s5 (x0 x1 x2 x3 : Int) : r_sLine_5 x0 x1 x2 x3 = bif sb x0 x1 x2 x3 then 0 else 0 := by
  unfold r_sLine_5
  rw [ok_seal, chain4, sb_s, seal_5]
theorem t5 (x0 x1 x2 x3 : Int) : r_rLine_5 x0 x1 x2 x3 = r_sLine_5 x0 x1 x2 x3 := by
  rw [s5]
  unfold r_rLine_5
  rw [ok_rseal, chain8, sb_r, rseal_5]

theorem s6 (x0 x1 x2 x3 : Int) : r_sLine_6 x0 x1 x2 x3 = bif sb x0 x1 x2 x3 then 0 else 0 := by
  unfold r_sLine_6
  rw [ok_seal, chain4, sb_s, seal_6]
theorem t6 (x0 x1 x2 x3 : Int) : r_rLine_6 x0 x1 x2 x3 = r_sLine_6 x0 x1 x2 x3 := by
  rw [s6]
  unfold r_rLine_6
  rw [ok_rseal, chain8, sb_r, rseal_6]

theorem s7 (x0 x1 x2 x3 : Int) : r_sLine_7 x0 x1 x2 x3 = bif sb x0 x1 x2 x3 then (sealS x0 x1 x2 x3 : Int) else 0 := by
  unfold r_sLine_7
  rw [ok_seal, chain4, sb_s, (seal_7 (by decide) (wu x0) (wu x1) (wu x2) (wu x3) (by decide) (by decide))]
  rfl
theorem t7 (x0 x1 x2 x3 : Int) : r_rLine_7 x0 x1 x2 x3 = r_sLine_7 x0 x1 x2 x3 := by
  rw [s7]
  unfold r_rLine_7
  rw [ok_rseal, chain8, sb_r, (rseal_7 (by decide) (wu x0) (wu x1) (wu x2) (wu x3) (by decide) (by decide))]
  rfl

theorem s8 (x0 x1 x2 x3 : Int) : r_sLine_8 x0 x1 x2 x3 = bif sb x0 x1 x2 x3 then 0 else 1 := by
  unfold r_sLine_8
  rw [ok_seal, chain4, sb_s]
theorem t8 (x0 x1 x2 x3 : Int) : r_rLine_8 x0 x1 x2 x3 = r_sLine_8 x0 x1 x2 x3 := by
  rw [s8]
  unfold r_rLine_8
  rw [ok_rseal, chain8, sb_r]
theorem sk (x0 x1 x2 x3 : Int) : ok_sLine x0 x1 x2 x3 = true := by
  unfold ok_sLine
  rw [ok_seal, chain4]
  cases (r_within__0 x0 1 1099511627776 && (r_within__0 x1 0 1023 && (r_within__0 x2 0 1099511627776 && r_within__0 x3 1 8))) <;> rfl
theorem tk (x0 x1 x2 x3 : Int) : ok_rLine x0 x1 x2 x3 = true := by
  unfold ok_rLine
  rw [ok_rseal, chain8, sb_r]
  cases sb x0 x1 x2 x3 <;> rfl

section
variable (x0 x1 x2 x3 x4 x5 x6 x7 : Int)
theorem rk : ok_sRead x0 x1 x2 x3 x4 x5 x6 x7 = true := by
  unfold ok_sRead
  simp only [sk, cond_true]
  generalize (r_sLine_8 _ _ _ _ != 0) = a
  cases a
  · generalize (!(_ && _)) = b
    cases b <;> rfl
  · rfl
theorem uk : ok_rRead x0 x1 x2 x3 x4 x5 x6 x7 = true := by
  have h := rk x0 x1 x2 x3 x4 x5 x6 x7
  unfold ok_sRead at h
  unfold ok_rRead
  simp only [t0, t1, t2, t3, t4, t5, t6, t7, t8, tk, sk] at h ⊢
  exact h

theorem u0 : r_rRead_0 x0 x1 x2 x3 x4 x5 x6 x7 = r_sRead_0 x0 x1 x2 x3 x4 x5 x6 x7 := by
  unfold r_rRead_0 r_sRead_0
  simp only [t0, t1, t2, t3, t4, t5, t6, t7, t8, tk, sk]

theorem u1 : r_rRead_1 x0 x1 x2 x3 x4 x5 x6 x7 = r_sRead_1 x0 x1 x2 x3 x4 x5 x6 x7 := by
  unfold r_rRead_1 r_sRead_1
  simp only [t0, t1, t2, t3, t4, t5, t6, t7, t8, tk, sk]

theorem u2 : r_rRead_2 x0 x1 x2 x3 x4 x5 x6 x7 = r_sRead_2 x0 x1 x2 x3 x4 x5 x6 x7 := by
  unfold r_rRead_2 r_sRead_2
  simp only [t0, t1, t2, t3, t4, t5, t6, t7, t8, tk, sk]

theorem u3 : r_rRead_3 x0 x1 x2 x3 x4 x5 x6 x7 = r_sRead_3 x0 x1 x2 x3 x4 x5 x6 x7 := by
  unfold r_rRead_3 r_sRead_3
  simp only [t0, t1, t2, t3, t4, t5, t6, t7, t8, tk, sk]

theorem u4 : r_rRead_4 x0 x1 x2 x3 x4 x5 x6 x7 = r_sRead_4 x0 x1 x2 x3 x4 x5 x6 x7 := by
  unfold r_rRead_4 r_sRead_4
  simp only [t0, t1, t2, t3, t4, t5, t6, t7, t8, tk, sk]

end
end Go.Proofs.Ytgmhggipaopoiaa.G

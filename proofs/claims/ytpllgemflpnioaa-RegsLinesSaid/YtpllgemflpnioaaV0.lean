/-
  What the laws of regs lean on.
-/
import Derived.Test.YtpllgemflpnioaaG1
namespace Go.Proofs.Ytpllgemflpnioaa.G
open Go Go.AM Go.Proofs

section
variable {α : Type} {i : Nat} {c : Bool} {t e : Tr α} {Q : α → Prop}
theorem brT (h : c = true) (ht : t.sat Q) : (Tr.br i c t e).sat Q := by
  obtain ⟨r, h1, h2⟩ := ht
  exact ⟨r, (br_t h).trans h1, h2⟩
theorem brF (h : c = false) (ht : e.sat Q) : (Tr.br i c t e).sat Q := by
  obtain ⟨r, h1, h2⟩ := ht
  exact ⟨r, (br_f h).trans h1, h2⟩
end

theorem within_eq (x a b : Int) : r_within__0 x a b = decide (a ≤ x ∧ x ≤ b) := by
  unfold r_within__0
  rw [Bool.eq_iff_iff]
  by_cases h : x ≥ a
  · simp [h]
  · simp [h]

theorem right_lo {x7 x8 x9 x10 : Int} (h : r_right_0 x7 x8 x9 x10 = true) : 1 ≤ x7 ∧ x7 ≤ 5 ∧ 0 ≤ x8 ∧ x8 ≤ 255 ∧ 0 ≤ x9 ∧ x9 ≤ 7 ∧ 0 ≤ x10 ∧ x10 ≤ 1 := by
  unfold r_right_0 at h
  simp only [within_eq, cond_eq_ite, beq_iff_eq, decide_eq_true_eq] at h
  (repeat' split at h) <;> simp only [decide_eq_true_eq, beq_iff_eq, Bool.false_eq_true] at h <;> omega

def gb (x0 x7 x8 x9 x10 : Int) : Bool := r_right_0 x7 x8 x9 x10 && r_within__0 x0 0 1099511627776

theorem gb_lo {x0 x7 x8 x9 x10 : Int} (h : gb x0 x7 x8 x9 x10 = true) : 0 ≤ x0 ∧ x0 ≤ 1099511627776 ∧ 1 ≤ x7 ∧ x7 ≤ 5 ∧ 0 ≤ x8 ∧ x8 ≤ 255 ∧ 0 ≤ x9 ∧ x9 ≤ 7 ∧ 0 ≤ x10 ∧ x10 ≤ 1 := by
  simp only [gb, within_eq, Bool.and_eq_true, decide_eq_true_eq] at h
  have := right_lo h.1
  omega

theorem chain2 {α : Type} (a b : Bool) (z v : α) : (bif !a then z else bif !b then z else v) = bif (a && b) then v else z := by
  cases a <;> cases b <;> rfl

section
variable (x0 x1 x2 x3 x4 x5 x6 x7 x8 x9 x10 : Int)
theorem g0 : r_gLine_0 x0 x7 x8 x9 x10 = bif gb x0 x7 x8 x9 x10 then IntKind.wrap IntKind.u64 x0 else 0 := by
  unfold r_gLine_0 gb; rw [chain2]
theorem g8 : r_gLine_8 x0 x7 x8 x9 x10 = bif gb x0 x7 x8 x9 x10 then 0 else 1 := by
  unfold r_gLine_8 gb; rw [chain2]
theorem g1 : r_gLine_1 x0 x1 x7 x8 x9 x10 = bif gb x0 x7 x8 x9 x10 then x1 else 0 := by
  unfold r_gLine_1 gb; rw [chain2]
theorem g2 : r_gLine_2 x0 x2 x7 x8 x9 x10 = bif gb x0 x7 x8 x9 x10 then x2 else 0 := by
  unfold r_gLine_2 gb; rw [chain2]
theorem g3 : r_gLine_3 x0 x3 x7 x8 x9 x10 = bif gb x0 x7 x8 x9 x10 then x3 else 0 := by
  unfold r_gLine_3 gb; rw [chain2]
theorem g4 : r_gLine_4 x0 x4 x7 x8 x9 x10 = bif gb x0 x7 x8 x9 x10 then x4 else 0 := by
  unfold r_gLine_4 gb; rw [chain2]
theorem g5 : r_gLine_5 x0 x5 x7 x8 x9 x10 = bif gb x0 x7 x8 x9 x10 then x5 else 0 := by
  unfold r_gLine_5 gb; rw [chain2]
theorem g6 : r_gLine_6 x0 x6 x7 x8 x9 x10 = bif gb x0 x7 x8 x9 x10 then x6 else 0 := by
  unfold r_gLine_6 gb; rw [chain2]
end

theorem g7 {x0 x7 x8 x9 x10 : Int} (h : gb x0 x7 x8 x9 x10 = true) : r_gLine_7 x0 x7 x8 x9 x10 = x7 + x8 * 16 + x9 * 1048576 + x10 * 16777216 := by
  obtain ⟨_, _, a1, a2, b1, b2, c1, c2, d1, d2⟩ := gb_lo h
  have h7 : r_gLine_7 x0 x7 x8 x9 x10 = bif gb x0 x7 x8 x9 x10 then bits BinOp.or IntKind.u64 (bits BinOp.or IntKind.u64 (bits BinOp.or IntKind.u64 (IntKind.wrap IntKind.u64 x7) (IntKind.wrap IntKind.u64 (IntKind.wrap IntKind.u64 x8 * 16))) (IntKind.wrap IntKind.u64 (IntKind.wrap IntKind.u64 x9 * 1048576))) (IntKind.wrap IntKind.u64 (IntKind.wrap IntKind.u64 x10 * 16777216)) else 0 := by
    unfold r_gLine_7 gb; rw [chain2]
  rw [h7, h, cond_true, wrap_u64 (x := x7) (by omega) (by omega)]
  obtain ⟨p, rfl⟩ := Int.eq_ofNat_of_zero_le (show 0 ≤ x7 by omega)
  obtain ⟨q, rfl⟩ := Int.eq_ofNat_of_zero_le b1
  obtain ⟨r, rfl⟩ := Int.eq_ofNat_of_zero_le c1
  obtain ⟨s, rfl⟩ := Int.eq_ofNat_of_zero_le d1
  obtain ⟨e1, k1⟩ := or_step (p := p) (i := 4) (P := p) (B := q) (M := 16) rfl rfl rfl (by omega) (by omega) (by decide)
  obtain ⟨e2, k2⟩ := or_step (i := 20) (B := r) (M := 1048576) e1 rfl rfl (by omega) (by omega) (by decide)
  obtain ⟨e3, _⟩ := or_step (i := 24) (B := s) (M := 16777216) e2 rfl rfl (by omega) (by omega) (by decide)
  rw [e3]
  omega
end Go.Proofs.Ytpllgemflpnioaa.G

/-
  The eight steps of a byte: what the inner loops come to.
-/
import Derived.Test.YtgmhggipaopoiaaCrcB
import Derived.Test.YtgmhggipaopoiaaAnCrc
namespace Go.Proofs.Ytgmhggipaopoiaa.G
open Go Go.AM Go.Proofs

def O_crcMore_7 (x0 : Int) (x1 : Nat) (x2 : Nat) (x3 : Int) (x4 : Int) (x5 : Int) (n6 : Nat) (g6 : Nat → Nat → Int) : Tr (Ex × List At) :=
  .br 0 (decide (0 ≤ x5) && decide (x5 ≤ 8)) (.ok (.exit 2, [.i (iter crcStep (8 - x5).toNat x0), .n x1, .n x2, .i x3, .i x4, .r n6 g6])) .no
def OL_crcMore_7 (l : List At) : Tr (Ex × List At) := O_crcMore_7 (aI l 0) (aN l 1) (aN l 2) (aI l 3) (aI l 4) (aI l 5) (aRn l 6) (aRg l 6)
def μ_crcMore_7 (l : List At) : Nat := (8 - aI l 5).toNat

theorem rd_crcMore_7 : ∀ l r, (OL_crcMore_7 l).val = some r → RoundA BL_crcMore_7 OL_crcMore_7 μ_crcMore_7 l r := by
  intro l r h
  obtain ⟨hc, h⟩ := guard_val h
  have := val_ok h
  subst this
  simp only [Bool.and_eq_true, decide_eq_true_eq] at hc
  by_cases hk : aI l 5 < 8
  · refine .inl ⟨_, [.i (crcStep (aI l 0)), .n (aN l 1), .n (aN l 2), .i (aI l 3), .i (aI l 4), .i (aI l 5 + 1), .r (aRn l 6) (aRg l 6)], (br_t (by simpa using hk)).trans rfl, ?_, ?_, ?_⟩
    · refine atsEq_cons (AtEq.refl _) (atsEq_cons (AtEq.refl _) (atsEq_cons (AtEq.refl _) (atsEq_cons (AtEq.refl _) (atsEq_cons (AtEq.refl _) (atsEq_cons (atEq_i ?_) (atsEq_cons (AtEq.refl _) atsEq_nil))))))
      exact wrap_i64 (by omega) (by omega)
    · show (8 - (aI l 5 + 1)).toNat < (8 - aI l 5).toNat
      omega
    · refine (br_t (g := 0) ?_).trans ?_
      · show (decide (0 ≤ aI l 5 + 1) && decide (aI l 5 + 1 ≤ 8)) = true
        simp only [Bool.and_eq_true, decide_eq_true_eq]; omega
      · show some _ = some _
        have e : (8 - aI l 5).toNat = (8 - (aI l 5 + 1)).toNat + 1 := by omega
        rw [e]
        rfl
  · refine .inr ⟨.exit 2, _, by simp, br_f (by simpa using hk), rfl, ?_⟩
    have e : (8 - aI l 5).toNat = 0 := by omega
    rw [e]
    exact AtsEq.refl _

def O_refReg_6 (x0 : Int) (x1 : Nat) (x2 : Nat) (x3 : Int) (x4 : Int) (n5 : Nat) (g5 : Nat → Nat → Int) : Tr (Ex × List At) :=
  .br 0 (decide (0 ≤ x4) && decide (x4 ≤ 8)) (.ok (.exit 2, [.i (iter refStep (8 - x4).toNat x0), .n x1, .n x2, .i x3, .r n5 g5])) .no
def OL_refReg_6 (l : List At) : Tr (Ex × List At) := O_refReg_6 (aI l 0) (aN l 1) (aN l 2) (aI l 3) (aI l 4) (aRn l 5) (aRg l 5)
def μ_refReg_6 (l : List At) : Nat := (8 - aI l 4).toNat

theorem rd_refReg_6 : ∀ l r, (OL_refReg_6 l).val = some r → RoundA BL_refReg_6 OL_refReg_6 μ_refReg_6 l r := by
  intro l r h
  obtain ⟨hc, h⟩ := guard_val h
  have := val_ok h
  subst this
  simp only [Bool.and_eq_true, decide_eq_true_eq] at hc
  by_cases hk : aI l 4 < 8
  · have hw : IntKind.i64.wrap (aI l 4 + 1) = aI l 4 + 1 := wrap_i64 (by omega) (by omega)
    refine .inl ⟨[.i (refStep (aI l 0)), .n (aN l 1), .n (aN l 2), .i (aI l 3), .i (IntKind.i64.wrap (aI l 4 + 1)), .r (aRn l 5) (aRg l 5)], [.i (refStep (aI l 0)), .n (aN l 1), .n (aN l 2), .i (aI l 3), .i (aI l 4 + 1), .r (aRn l 5) (aRg l 5)], ?_, ?_, ?_, ?_⟩
    rotate_left
    · refine atsEq_cons (AtEq.refl _) (atsEq_cons (AtEq.refl _) (atsEq_cons (AtEq.refl _) (atsEq_cons (AtEq.refl _) (atsEq_cons (atEq_i hw) (atsEq_cons (AtEq.refl _) atsEq_nil)))))
    · show (8 - (aI l 4 + 1)).toNat < (8 - aI l 4).toNat
      omega
    · refine (br_t (g := 0) ?_).trans ?_
      · show (decide (0 ≤ aI l 4 + 1) && decide (aI l 4 + 1 ≤ 8)) = true
        simp only [Bool.and_eq_true, decide_eq_true_eq]; omega
      · show some _ = some _
        have e : (8 - aI l 4).toNat = (8 - (aI l 4 + 1)).toNat + 1 := by omega
        rw [e]
        rfl
    · refine (br_t (by simpa using hk)).trans ?_
      unfold refStep
      cases hb : bits BinOp.and IntKind.u32 (aI l 0) 1 == 1
      · rfl
      · rfl
  · refine .inr ⟨.exit 2, _, by simp, br_f (by simpa using hk), rfl, ?_⟩
    have e : (8 - aI l 4).toNat = 0 := by omega
    rw [e]
    exact AtsEq.refl _
end Go.Proofs.Ytgmhggipaopoiaa.G

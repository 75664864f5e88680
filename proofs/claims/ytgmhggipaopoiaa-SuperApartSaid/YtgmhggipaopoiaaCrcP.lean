/-
  All bytes of a row: what the outer loops come to.
-/
import Derived.Test.YtgmhggipaopoiaaCrcC
namespace Go.Proofs.Ytgmhggipaopoiaa.G
open Go Go.AM Go.Proofs

def O_crcMore_3 (x0 : Int) (x1 : Nat) (x2 : Nat) (x3 : Int) (x4 : Int) (n5 : Nat) (g5 : Nat → Nat → Int) : Tr (Ex × List At) :=
  .br 0 (decide (0 ≤ x4) && decide (x4 ≤ x3) && decide (x3 = (x2 : Int)) && decide (x3 < 9223372036854775807)) (.ok (.exit 0, [.i (crcFold crcStep (fun j => g5 j 0) (x3 - x4).toNat (x1 + x4.toNat) x0)])) .no
def OL_crcMore_3 (l : List At) : Tr (Ex × List At) := O_crcMore_3 (aI l 0) (aN l 1) (aN l 2) (aI l 3) (aI l 4) (aRn l 5) (aRg l 5)
def μ_crcMore_3 (l : List At) : Nat := (aI l 3 - aI l 4).toNat

theorem rd_crcMore_3 : ∀ l r, (OL_crcMore_3 l).val = some r → RoundA BL_crcMore_3 OL_crcMore_3 μ_crcMore_3 l r := by
  intro l r h
  obtain ⟨hc, h⟩ := guard_val h
  have := val_ok h
  subst this
  simp only [Bool.and_eq_true, decide_eq_true_eq] at hc
  obtain ⟨⟨⟨h1, h2⟩, h3⟩, h4⟩ := hc
  by_cases hk : aI l 4 < aI l 3
  · have hw : IntKind.i64.wrap (aI l 4 + 1) = aI l 4 + 1 := wrap_i64 (by omega) (by omega)
    refine .inl ⟨_, [.i (iter crcStep 8 (bits BinOp.xor IntKind.u32 (aI l 0) (IntKind.u32.wrap (aRg l 5 (aN l 1 + (aI l 4).toNat) 0)))), .n (aN l 1), .n (aN l 2), .i (aI l 3), .i (aI l 4 + 1), .r (aRn l 5) (aRg l 5)], (br_t (by simpa using hk)).trans ((br_t (by simp only [within, Bool.and_eq_true, decide_eq_true_eq]; omega)).trans (br_t rfl)), ?_, ?_, ?_⟩
    · refine atsEq_cons (AtEq.refl _) (atsEq_cons (AtEq.refl _) (atsEq_cons (AtEq.refl _) (atsEq_cons (AtEq.refl _) (atsEq_cons (atEq_i hw) (atsEq_cons (AtEq.refl _) atsEq_nil)))))
    · show (aI l 3 - (aI l 4 + 1)).toNat < (aI l 3 - aI l 4).toNat
      omega
    · refine (br_t (g := 0) ?_).trans ?_
      · show (decide (0 ≤ aI l 4 + 1) && decide (aI l 4 + 1 ≤ aI l 3) && decide (aI l 3 = (aN l 2 : Int)) && decide (aI l 3 < 9223372036854775807)) = true
        simp only [Bool.and_eq_true, decide_eq_true_eq]; omega
      · show some _ = some _
        have e : (aI l 3 - aI l 4).toNat = (aI l 3 - (aI l 4 + 1)).toNat + 1 := by omega
        have e2 : aN l 1 + (aI l 4 + 1).toNat = aN l 1 + (aI l 4).toNat + 1 := by omega
        rw [e]
        simp only [aI, aN, List.getElem?_cons_succ, List.getElem?_cons_zero] at e2 ⊢
        rw [e2]
        rfl
  · refine .inr ⟨.exit 0, _, by simp, br_f (by simpa using hk), rfl, ?_⟩
    have e : (aI l 3 - aI l 4).toNat = 0 := by omega
    rw [e]
    exact AtsEq.refl _

def O_refReg_2 (x0 : Int) (x1 : Nat) (x2 : Nat) (x3 : Int) (n4 : Nat) (g4 : Nat → Nat → Int) : Tr (Ex × List At) :=
  .br 0 (decide (0 ≤ x3) && decide (x3 ≤ (x2 : Int)) && decide ((x2 : Int) < 9223372036854775807)) (.ok (.exit 0, [.i (crcFold refStep (fun j => g4 j 0) ((x2 : Int) - x3).toNat (x1 + x3.toNat) x0)])) .no
def OL_refReg_2 (l : List At) : Tr (Ex × List At) := O_refReg_2 (aI l 0) (aN l 1) (aN l 2) (aI l 3) (aRn l 4) (aRg l 4)
def μ_refReg_2 (l : List At) : Nat := ((aN l 2 : Int) - aI l 3).toNat

theorem rd_refReg_2 : ∀ l r, (OL_refReg_2 l).val = some r → RoundA BL_refReg_2 OL_refReg_2 μ_refReg_2 l r := by
  intro l r h
  obtain ⟨hc, h⟩ := guard_val h
  have := val_ok h
  subst this
  simp only [Bool.and_eq_true, decide_eq_true_eq] at hc
  obtain ⟨⟨h1, h2⟩, h4⟩ := hc
  by_cases hk : aI l 3 < (aN l 2 : Int)
  · have hw : IntKind.i64.wrap (aI l 3 + 1) = aI l 3 + 1 := wrap_i64 (by omega) (by omega)
    refine .inl ⟨_, [.i (iter refStep 8 (bits BinOp.xor IntKind.u32 (aI l 0) (IntKind.u32.wrap (aRg l 4 (aN l 1 + (aI l 3).toNat) 0)))), .n (aN l 1), .n (aN l 2), .i (aI l 3 + 1), .r (aRn l 4) (aRg l 4)], (br_t (by simpa using hk)).trans ((br_t (by simp only [within, Bool.and_eq_true, decide_eq_true_eq]; omega)).trans (br_t rfl)), ?_, ?_, ?_⟩
    · refine atsEq_cons (AtEq.refl _) (atsEq_cons (AtEq.refl _) (atsEq_cons (AtEq.refl _) (atsEq_cons (atEq_i hw) (atsEq_cons (AtEq.refl _) atsEq_nil))))
    · show ((aN l 2 : Int) - (aI l 3 + 1)).toNat < ((aN l 2 : Int) - aI l 3).toNat
      omega
    · refine (br_t (g := 0) ?_).trans ?_
      · show (decide (0 ≤ aI l 3 + 1) && decide (aI l 3 + 1 ≤ (aN l 2 : Int)) && decide ((aN l 2 : Int) < 9223372036854775807)) = true
        simp only [Bool.and_eq_true, decide_eq_true_eq]; omega
      · show some _ = some _
        have e : ((aN l 2 : Int) - aI l 3).toNat = ((aN l 2 : Int) - (aI l 3 + 1)).toNat + 1 := by omega
        have e2 : aN l 1 + (aI l 3 + 1).toNat = aN l 1 + (aI l 3).toNat + 1 := by omega
        rw [e]
        simp only [aI, aN, List.getElem?_cons_succ, List.getElem?_cons_zero] at e2 ⊢
        rw [e2]
        rfl
  · refine .inr ⟨.exit 0, _, by simp, br_f (by simpa using hk), rfl, ?_⟩
    have e : ((aN l 2 : Int) - aI l 3).toNat = 0 := by omega
    rw [e]
    exact AtsEq.refl _
end Go.Proofs.Ytgmhggipaopoiaa.G

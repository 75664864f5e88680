/-
  The loop of CrcThree: the bytes of three slices, one against another.
-/
import Derived.Test.YtpgfnccagiiknaaB6
namespace Go.Proofs.Ytpgfnccagiiknaa.G
open Go Go.AM Go.Proofs

def xor3 (a b c : Int) : Int := bits BinOp.xor IntKind.u8 (bits BinOp.xor IntKind.u8 a b) c
def three (x0 x2 x4 : Nat) (g9 g10 g11 : Nat → Nat → Int) (n12 : Nat) (g12 : Nat → Nat → Int) : Nat → Nat → Int := fun j c =>
  if j < n12 then g12 j c else rowsF [[xor3 (g9 (x0 + j) 0) (g10 (x2 + j) 0) (g11 (x4 + j) 0)]] 0 c
def thOk (x1 x3 x5 : Nat) (x7 x8 : Int) (n12 : Nat) : Bool :=
  decide (0 ≤ x8 ∧ x8 ≤ x7 ∧ x7 ≤ x1 ∧ x7 ≤ x3 ∧ x7 ≤ x5 ∧ n12 = x8.toNat ∧ x7 ≤ 1073741824)
def O_CrcThree_5 (x0 x1 x2 x3 x4 x5 : Nat) (x6 : Bool) (x7 x8 : Int) (n9 : Nat) (g9 : Nat → Nat → Int) (n10 : Nat) (g10 : Nat → Nat → Int) (n11 : Nat) (g11 : Nat → Nat → Int) (n12 : Nat) (g12 : Nat → Nat → Int) : Tr (Ex × List At) :=
  .br 0 (thOk x1 x3 x5 x7 x8 n12)
    (.ok (.exit 0, [.n x0, .n x1, .n x2, .n x3, .n x4, .n x5, .b x6, .i x7, .r n9 g9, .r n10 g10, .r n11 g11, .r x7.toNat (three x0 x2 x4 g9 g10 g11 n12 g12)])) .no
def OL_CrcThree_5 (l : List At) : Tr (Ex × List At) := O_CrcThree_5 (aN l 0) (aN l 1) (aN l 2) (aN l 3) (aN l 4) (aN l 5) (aB l 6) (aI l 7) (aI l 8) (aRn l 9) (aRg l 9) (aRn l 10) (aRg l 10) (aRn l 11) (aRg l 11) (aRn l 12) (aRg l 12)
def μ_CrcThree_5 (l : List At) : Nat := (aI l 7 - aI l 8).toNat

theorem three_step (x0 x2 x4 : Nat) (g9 g10 g11 : Nat → Nat → Int) (n12 : Nat) (g12 : Nat → Nat → Int) :
    three x0 x2 x4 g9 g10 g11 (n12 + 1) (appG g12 n12 (rowsF [[xor3 (g9 (x0 + n12) 0) (g10 (x2 + n12) 0) (g11 (x4 + n12) 0)]])) = three x0 x2 x4 g9 g10 g11 n12 g12 := by
  funext j c
  unfold three
  by_cases h : j < n12
  · have h2 : j < n12 + 1 := by omega
    simp only [h, h2, if_true, appG]
  · by_cases h1 : j = n12
    · subst h1
      simp only [show j < j + 1 from Nat.lt_succ_self j, Nat.lt_irrefl, if_true, if_false, appG]
      rfl
    · have h2 : ¬ j < n12 + 1 := by omega
      simp only [h, h2, if_false]

theorem rd_CrcThree_5 : ∀ l r, (OL_CrcThree_5 l).val = some r → RoundA BL_CrcThree_5 OL_CrcThree_5 μ_CrcThree_5 l r := by
  intro l r h
  obtain ⟨hc, h⟩ := guard_val h
  have := val_ok h
  subst this
  simp only [thOk, decide_eq_true_eq] at hc
  obtain ⟨c0, c1, c2, c3, c4, c5, c6⟩ := hc
  by_cases hk : aI l 8 < aI l 7
  · have hw : IntKind.i64.wrap (aI l 8 + 1) = aI l 8 + 1 := wrap_i64 (by omega) (by omega)
    have w1 : within (aI l 8) (aN l 1) = true := by simp only [within, Bool.and_eq_true, decide_eq_true_eq]; omega
    have w3 : within (aI l 8) (aN l 3) = true := by simp only [within, Bool.and_eq_true, decide_eq_true_eq]; omega
    have w5 : within (aI l 8) (aN l 5) = true := by simp only [within, Bool.and_eq_true, decide_eq_true_eq]; omega
    have w6 : aRn l 12 + 1 ≤ 1073741824 := by omega
    refine .inl ⟨_, [.n (aN l 0), .n (aN l 1), .n (aN l 2), .n (aN l 3), .n (aN l 4), .n (aN l 5), .b (aB l 6), .i (aI l 7), .i (aI l 8 + 1), .r (aRn l 9) (aRg l 9), .r (aRn l 10) (aRg l 10), .r (aRn l 11) (aRg l 11),
      .r (aRn l 12 + 1) (appG (aRg l 12) (aRn l 12) (rowsF [[xor3 (aRg l 9 (aN l 0 + aRn l 12) 0) (aRg l 10 (aN l 2 + aRn l 12) 0) (aRg l 11 (aN l 4 + aRn l 12) 0)]]))],
      (br_t (by simpa using hk)).trans ((br_t w1).trans ((br_t w3).trans ((br_t w5).trans ((br_t (by simpa using w6)).trans rfl)))), ?_, ?_, ?_⟩
    · refine atsEq_cons (AtEq.refl _) (atsEq_cons (AtEq.refl _) (atsEq_cons (AtEq.refl _) (atsEq_cons (AtEq.refl _) (atsEq_cons (AtEq.refl _) (atsEq_cons (AtEq.refl _) (atsEq_cons (AtEq.refl _) (atsEq_cons (AtEq.refl _) (atsEq_cons (atEq_i hw) (atsEq_cons (AtEq.refl _) (atsEq_cons (AtEq.refl _) (atsEq_cons (AtEq.refl _) (atsEq_cons (atEq_r rfl ?_) atsEq_nil))))))))))))
      intro i _ c
      rw [c5]
      rfl
    · show (aI l 7 - (aI l 8 + 1)).toNat < (aI l 7 - aI l 8).toNat
      omega
    · refine (br_t (g := 0) ?_).trans ?_
      · show thOk (aN l 1) (aN l 3) (aN l 5) (aI l 7) (aI l 8 + 1) (aRn l 12 + 1) = true
        simp only [thOk, decide_eq_true_eq]; omega
      · show some (Ex.exit 0, [At.n (aN l 0), .n (aN l 1), .n (aN l 2), .n (aN l 3), .n (aN l 4), .n (aN l 5), .b (aB l 6), .i (aI l 7), .r (aRn l 9) (aRg l 9), .r (aRn l 10) (aRg l 10), .r (aRn l 11) (aRg l 11),
          .r (aI l 7).toNat (three (aN l 0) (aN l 2) (aN l 4) (aRg l 9) (aRg l 10) (aRg l 11) (aRn l 12 + 1) (appG (aRg l 12) (aRn l 12) (rowsF [[xor3 (aRg l 9 (aN l 0 + aRn l 12) 0) (aRg l 10 (aN l 2 + aRn l 12) 0) (aRg l 11 (aN l 4 + aRn l 12) 0)]])))]) = some _
        rw [three_step]
  · refine .inr ⟨.exit 0, _, by simp, br_f (by simpa using hk), rfl, ?_⟩
    have e : (aI l 7).toNat = aRn l 12 := by omega
    refine atsEq_cons (AtEq.refl _) (atsEq_cons (AtEq.refl _) (atsEq_cons (AtEq.refl _) (atsEq_cons (AtEq.refl _) (atsEq_cons (AtEq.refl _) (atsEq_cons (AtEq.refl _) (atsEq_cons (AtEq.refl _) (atsEq_cons (AtEq.refl _) (atsEq_cons (AtEq.refl _) (atsEq_cons (AtEq.refl _) (atsEq_cons (AtEq.refl _) (atsEq_cons (atEq_r e.symm ?_) atsEq_nil)))))))))))
    intro i hi c
    simp only [three, hi, if_true]
end Go.Proofs.Ytpgfnccagiiknaa.G

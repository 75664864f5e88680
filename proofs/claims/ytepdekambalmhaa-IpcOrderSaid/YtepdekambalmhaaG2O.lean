/-
  What the loops that lay the numbers into a gate's line come to.
-/
import Derived.Test.YtepdekambalmhaaG2
namespace Go.Proofs.Ytepdekambalmhaa.G
open Go Go.AM Go.Proofs

/-- The word 'j' of a line, behind the numbers 'i' to 'n' - 1 laid into it. -/
def put (i n : Int) (g : Nat → Int) (j : Nat) (c : Int) : Int := bif decide (i < (j : Int) ∧ (j : Int) ≤ n) then IntKind.u64.wrap (g (j - 1)) else c

theorem put_step {i n : Int} {g : Nat → Int} (h0 : 0 ≤ i) (h1 : i < n) (j : Nat) (c : Int) : put (i + 1) n g j (bif Nat.beq (i + 1).toNat j then IntKind.u64.wrap (g i.toNat) else c) = put i n g j c := by
  unfold put
  by_cases hj : (i + 1).toNat = j
  · have e1 : decide (i + 1 < (j : Int) ∧ (j : Int) ≤ n) = false := decide_eq_false (by omega)
    have e2 : decide (i < (j : Int) ∧ (j : Int) ≤ n) = true := decide_eq_true (by omega)
    have e3 : Nat.beq (i + 1).toNat j = true := by rw [hj]; exact Nat.beq_refl j
    rw [e1, e2, e3, cond_true, cond_true, cond_false, show j - 1 = i.toNat by omega]
  · have e1 : decide (i + 1 < (j : Int) ∧ (j : Int) ≤ n) = decide (i < (j : Int) ∧ (j : Int) ≤ n) := decide_eq_decide.2 (by omega)
    have e3 : Nat.beq (i + 1).toNat j = false := by
      cases hb : Nat.beq (i + 1).toNat j with
      | false => rfl
      | true => exact (hj (Nat.eq_of_beq_eq_true hb)).elim
    rw [e1, e3, cond_false]
theorem put_end {i n : Int} {g : Nat → Int} (h : n ≤ i) (j : Nat) (c : Int) : put i n g j c = c := by
  unfold put
  rw [decide_eq_false (by omega)]; rfl

def O_gLine_7 (x0 : Nat) (x1 : Nat) (x2 x3 : Int) (_n4 : Nat) (g4 : Nat → Nat → Int) (x5 x6 x7 x8 x9 x10 x11 x12 x13 x14 x15 x16 x17 x18 x19 x20 : Int) : Tr (Ex × List At) :=
  .br 0 (decide (0 ≤ x3 ∧ x2 = x1 ∧ x3 ≤ x2 ∧ x2 ≤ 7)) (.ok (.exit 0, [.i x5, .i x6, .i x7, .i x8, .i x9, .i x10, .i x11, .i x12, .i (put (x3) (x2) (fun k => g4 (x0 + k) 0) 0 x13), .i (put (x3) (x2) (fun k => g4 (x0 + k) 0) 1 x14), .i (put (x3) (x2) (fun k => g4 (x0 + k) 0) 2 x15), .i (put (x3) (x2) (fun k => g4 (x0 + k) 0) 3 x16), .i (put (x3) (x2) (fun k => g4 (x0 + k) 0) 4 x17), .i (put (x3) (x2) (fun k => g4 (x0 + k) 0) 5 x18), .i (put (x3) (x2) (fun k => g4 (x0 + k) 0) 6 x19), .i (put (x3) (x2) (fun k => g4 (x0 + k) 0) 7 x20)])) .no
def OL_gLine_7 (l : List At) : Tr (Ex × List At) := O_gLine_7 (aN l 0) (aN l 1) (aI l 2) (aI l 3) (aRn l 4) (aRg l 4) (aI l 5) (aI l 6) (aI l 7) (aI l 8) (aI l 9) (aI l 10) (aI l 11) (aI l 12) (aI l 13) (aI l 14) (aI l 15) (aI l 16) (aI l 17) (aI l 18) (aI l 19) (aI l 20)
def μ_gLine_7 (l : List At) : Nat := (aI l 2 - aI l 3).toNat

theorem rd_gLine_7 : ∀ l r, (OL_gLine_7 l).val = some r → RoundS BL_gLine_7 OL_gLine_7 μ_gLine_7 l r := by
  intro l r h
  obtain ⟨hc, h⟩ := guard_val h
  simp only [decide_eq_true_eq] at hc
  obtain ⟨c0, c1, c2, c3⟩ := hc
  unfold RoundS BL_gLine_7 B_gLine_7
  refine brC (fun h1 => ?_) (fun h1 => ?_)
  · simp only [decide_eq_true_eq] at h1
    have hw : IntKind.i64.wrap (aI l 3 + 1) = aI l 3 + 1 := wrap_i64 (by omega) (by omega)
    have hw2 : IntKind.i64.wrap (1 + aI l 3) = aI l 3 + 1 := by rw [Int.add_comm]; exact hw
    rw [hw, hw2]
    refine brT (by simp only [within, Bool.and_eq_true, decide_eq_true_eq]; omega) (brT (by simp only [within, Bool.and_eq_true, decide_eq_true_eq]; omega) ?_)
    refine on_ _ r (AtsEq.refl _) ?_ ?_ rfl (AtsEq.refl _)
    · show (aI l 2 - (aI l 3 + 1)).toNat < (aI l 2 - aI l 3).toNat
      omega
    · have hp := put_step (i := aI l 3) (n := aI l 2) (g := fun k => aRg l 4 (aN l 0 + k) 0) c0 h1
      refine (br_t (g := 0) ?_).trans (Eq.trans (congrArg (fun z => (Tr.ok (Ex.exit 0, z)).val) ?_) h)
      · show decide (0 ≤ aI l 3 + 1 ∧ aI l 2 = aN l 1 ∧ aI l 3 + 1 ≤ aI l 2 ∧ aI l 2 ≤ 7) = true
        simp only [decide_eq_true_eq]; omega
      · exact congrArg (List.cons _) (congrArg (List.cons _) (congrArg (List.cons _) (congrArg (List.cons _) (congrArg (List.cons _) (congrArg (List.cons _) (congrArg (List.cons _) (congrArg (List.cons _) (congr (congrArg List.cons (congrArg At.i (hp 0 (aI l 13)))) (congr (congrArg List.cons (congrArg At.i (hp 1 (aI l 14)))) (congr (congrArg List.cons (congrArg At.i (hp 2 (aI l 15)))) (congr (congrArg List.cons (congrArg At.i (hp 3 (aI l 16)))) (congr (congrArg List.cons (congrArg At.i (hp 4 (aI l 17)))) (congr (congrArg List.cons (congrArg At.i (hp 5 (aI l 18)))) (congr (congrArg List.cons (congrArg At.i (hp 6 (aI l 19)))) (congr (congrArg List.cons (congrArg At.i (hp 7 (aI l 20)))) (rfl))))))))))))))))
  · simp only [decide_eq_false_iff_not] at h1
    have := val_ok h
    subst this
    refine out_ (by simp) rfl ?_
    simp only [put_end (show aI l 2 ≤ aI l 3 by omega)]
    exact AtsEq.refl _

def O_rLine_7 (x0 : Nat) (x1 : Nat) (x2 : Int) (_n3 : Nat) (g3 : Nat → Nat → Int) (x4 x5 x6 x7 x8 x9 x10 x11 x12 x13 x14 x15 x16 x17 x18 x19 : Int) : Tr (Ex × List At) :=
  .br 0 (decide (0 ≤ x2 ∧ x2 ≤ x1 ∧ x1 ≤ 7)) (.br 0 (decide (findI (fun k => decide (g3 (x0 + k) 0 < 0) || decide (g3 (x0 + k) 0 ≥ 49)) (x1 - x2).toNat x2.toNat < x1)) (.ok (.ret, [At.i 1, At.i 0, At.i 0, At.i 0, At.i 0, At.i 0, At.i 0, At.i 0, At.i 0]))
    (.ok (.exit 0, [.i x4, .i x5, .i x6, .i x7, .i x8, .i x9, .i x10, .i x11, .i (put (x2) (x1) (fun k => g3 (x0 + k) 0) 0 x12), .i (put (x2) (x1) (fun k => g3 (x0 + k) 0) 1 x13), .i (put (x2) (x1) (fun k => g3 (x0 + k) 0) 2 x14), .i (put (x2) (x1) (fun k => g3 (x0 + k) 0) 3 x15), .i (put (x2) (x1) (fun k => g3 (x0 + k) 0) 4 x16), .i (put (x2) (x1) (fun k => g3 (x0 + k) 0) 5 x17), .i (put (x2) (x1) (fun k => g3 (x0 + k) 0) 6 x18), .i (put (x2) (x1) (fun k => g3 (x0 + k) 0) 7 x19)]))) .no
def OL_rLine_7 (l : List At) : Tr (Ex × List At) := O_rLine_7 (aN l 0) (aN l 1) (aI l 2) (aRn l 3) (aRg l 3) (aI l 4) (aI l 5) (aI l 6) (aI l 7) (aI l 8) (aI l 9) (aI l 10) (aI l 11) (aI l 12) (aI l 13) (aI l 14) (aI l 15) (aI l 16) (aI l 17) (aI l 18) (aI l 19)
def μ_rLine_7 (l : List At) : Nat := (aN l 1 - aI l 2).toNat

theorem rd_rLine_7 : ∀ l r, (OL_rLine_7 l).val = some r → RoundS BL_rLine_7 OL_rLine_7 μ_rLine_7 l r := by
  intro l r h
  obtain ⟨hc, h⟩ := guard_val h
  simp only [decide_eq_true_eq] at hc
  obtain ⟨c0, c1, c2⟩ := hc
  unfold RoundS BL_rLine_7 B_rLine_7
  refine brC (fun h1 => ?_) (fun h1 => ?_)
  · simp only [decide_eq_true_eq] at h1
    have hw : IntKind.i64.wrap (aI l 2 + 1) = aI l 2 + 1 := wrap_i64 (by omega) (by omega)
    have hin : within (aI l 2) (aN l 1) = true := by simp only [within, Bool.and_eq_true, decide_eq_true_eq]; omega
    rw [hw]
    have hit : ∀ {Q}, (decide (aRg l 3 (aN l 0 + (aI l 2).toNat) 0 < 0) || decide (aRg l 3 (aN l 0 + (aI l 2).toNat) 0 ≥ 49)) = true → (r = (.ret, [At.i 1, At.i 0, At.i 0, At.i 0, At.i 0, At.i 0, At.i 0, At.i 0, At.i 0]) → Q) → Q := by
      intro Q hb k
      have hf := findI_hit (p := (fun k => decide (aRg l 3 (aN l 0 + k) 0 < 0) || decide (aRg l 3 (aN l 0 + k) 0 ≥ 49))) (m := (aN l 1 - aI l 2).toNat) (i := (aI l 2).toNat) (by omega) hb
      rw [hf, br_t (by simp only [decide_eq_true_eq]; omega)] at h
      exact k (val_ok h).symm
    refine brT hin (brC (fun h3 => ?_) (fun h3 => brT hin (brC (fun h4 => ?_) (fun h4 => brT hin (brT (by simp only [within, Bool.and_eq_true, decide_eq_true_eq]; omega) ?_)))))
    · exact hit (by rw [h3]; rfl) fun e => by subst e; exact out_ (by simp) rfl (AtsEq.refl _)
    · exact hit (by rw [h4, Bool.or_true]) fun e => by subst e; exact out_ (by simp) rfl (AtsEq.refl _)
    · have hf := findI_step (p := (fun k => decide (aRg l 3 (aN l 0 + k) 0 < 0) || decide (aRg l 3 (aN l 0 + k) 0 ≥ 49))) (m := (aN l 1 - aI l 2).toNat) (m' := (aN l 1 - (aI l 2 + 1)).toNat) (i := (aI l 2).toNat) (by omega) (by show (_ || _) = false; rw [h3, h4]; rfl)
      rw [hf, show (aI l 2).toNat + 1 = (aI l 2 + 1).toNat by omega] at h
      refine on_ _ r (AtsEq.refl _) ?_ ?_ rfl (AtsEq.refl _)
      · show (aN l 1 - (aI l 2 + 1)).toNat < (aN l 1 - aI l 2).toNat
        omega
      · have hp := put_step (i := aI l 2) (n := aN l 1) (g := fun k => aRg l 3 (aN l 0 + k) 0) c0 h1
        refine (br_t (g := 0) ?_).trans (Eq.trans (congrArg (fun z => (Tr.br 0 (decide (findI (fun k => decide (aRg l 3 (aN l 0 + k) 0 < 0) || decide (aRg l 3 (aN l 0 + k) 0 ≥ 49)) (aN l 1 - (aI l 2 + 1)).toNat (aI l 2 + 1).toNat < aN l 1)) (Tr.ok (Ex.ret, [At.i 1, At.i 0, At.i 0, At.i 0, At.i 0, At.i 0, At.i 0, At.i 0, At.i 0])) (Tr.ok (Ex.exit 0, z))).val) ?_) h)
        · show decide (0 ≤ aI l 2 + 1 ∧ aI l 2 + 1 ≤ aN l 1 ∧ aN l 1 ≤ 7) = true
          simp only [decide_eq_true_eq]; omega
        · exact congrArg (List.cons _) (congrArg (List.cons _) (congrArg (List.cons _) (congrArg (List.cons _) (congrArg (List.cons _) (congrArg (List.cons _) (congrArg (List.cons _) (congrArg (List.cons _) (congr (congrArg List.cons (congrArg At.i (hp 0 (aI l 12)))) (congr (congrArg List.cons (congrArg At.i (hp 1 (aI l 13)))) (congr (congrArg List.cons (congrArg At.i (hp 2 (aI l 14)))) (congr (congrArg List.cons (congrArg At.i (hp 3 (aI l 15)))) (congr (congrArg List.cons (congrArg At.i (hp 4 (aI l 16)))) (congr (congrArg List.cons (congrArg At.i (hp 5 (aI l 17)))) (congr (congrArg List.cons (congrArg At.i (hp 6 (aI l 18)))) (congr (congrArg List.cons (congrArg At.i (hp 7 (aI l 19)))) (rfl))))))))))))))))
  · simp only [decide_eq_false_iff_not] at h1
    have e : (aN l 1 - aI l 2).toNat = 0 := by omega
    rw [e, br_f (decide_eq_false (by simp only [findI]; omega))] at h
    have := val_ok h
    subst this
    refine out_ (by simp) rfl ?_
    simp only [put_end (show (aN l 1 : Int) ≤ aI l 2 by omega)]
    exact AtsEq.refl _
end Go.Proofs.Ytepdekambalmhaa.G

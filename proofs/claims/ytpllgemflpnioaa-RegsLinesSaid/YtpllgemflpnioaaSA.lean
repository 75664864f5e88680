/-
  The reference's line is the code's.
-/
import Derived.Test.YtpllgemflpnioaaGA
import Derived.Test.YtpllgemflpnioaaV4
import Derived.KernelRfl
namespace Go.Proofs.Ytpllgemflpnioaa.G
open Go Go.AM Go.Proofs

theorem gb_iff (x0 x7 x8 x9 x10 : Int) : gb x0 x7 x8 x9 x10 = true ↔ 0 ≤ x0 ∧ x0 ≤ 1099511627776 ∧ (x7 = 3 ∧ 0 ≤ x8 ∧ x8 ≤ 48 ∧ 0 ≤ x9 ∧ x9 ≤ 7 ∧ 0 ≤ x10 ∧ x10 ≤ 1 ∨ x7 = 4 ∧ 0 ≤ x8 ∧ x8 ≤ 48 ∧ 0 ≤ x9 ∧ x9 ≤ 7 ∧ x10 = 0 ∨
    x7 = 5 ∧ 0 ≤ x8 ∧ x8 ≤ 255 ∧ x9 = 0 ∧ x10 = 0 ∨ (x7 = 1 ∨ x7 = 2) ∧ x8 = 0 ∧ x9 = 0 ∧ x10 = 0) := by
  unfold gb r_right_0
  simp only [within_eq, cond_eq_ite, beq_iff_eq, decide_eq_true_eq, Bool.and_eq_true]
  (repeat' split) <;> simp only [decide_eq_true_eq, beq_iff_eq, Bool.false_eq_true, false_and, iff_false, false_iff] <;> omega

theorem leaf {x0 x1 x2 x3 x4 x5 x6 x7 x8 x9 x10 : Int} (h : gb x0 x7 x8 x9 x10 = true) : (.br 0 (ok_rWith (0 : Int) (0 : Int) (4 : Int) (IntKind.wrap IntKind.u64 x7))
 (.br 0 (ok_rWith (r_rWith_0 (0 : Int) (0 : Int) (4 : Int) (IntKind.wrap IntKind.u64 x7)) (4 : Int) (16 : Int) (IntKind.wrap IntKind.u64 x8))
 (.br 0 (ok_rWith (r_rWith_0 (r_rWith_0 (0 : Int) (0 : Int) (4 : Int) (IntKind.wrap IntKind.u64 x7)) (4 : Int) (16 : Int) (IntKind.wrap IntKind.u64 x8)) (20 : Int) (4 : Int) (IntKind.wrap IntKind.u64 x9))
 (.br 0 (ok_rWith (r_rWith_0 (r_rWith_0 (r_rWith_0 (0 : Int) (0 : Int) (4 : Int) (IntKind.wrap IntKind.u64 x7)) (4 : Int) (16 : Int) (IntKind.wrap IntKind.u64 x8)) (20 : Int) (4 : Int) (IntKind.wrap IntKind.u64 x9)) (24 : Int) (1 : Int) (IntKind.wrap IntKind.u64 x10))
 (.ok [(.i (IntKind.wrap IntKind.u64 x0)), (.i (x1)), (.i (x2)), (.i (x3)), (.i (x4)), (.i (x5)), (.i (x6)), (.i (r_rWith_0 (r_rWith_0 (r_rWith_0 (r_rWith_0 (0 : Int) (0 : Int) (4 : Int) (IntKind.wrap IntKind.u64 x7)) (4 : Int) (16 : Int) (IntKind.wrap IntKind.u64 x8)) (20 : Int) (4 : Int) (IntKind.wrap IntKind.u64 x9)) (24 : Int) (1 : Int) (IntKind.wrap IntKind.u64 x10))), (.i ((0 : Int)))])
 (.no))
 (.no))
 (.no))
 (.no) : Tr (List At)).sat fun r => r = [.i (r_gLine_0 x0 x7 x8 x9 x10), .i (r_gLine_1 x0 x1 x7 x8 x9 x10), .i (r_gLine_2 x0 x2 x7 x8 x9 x10), .i (r_gLine_3 x0 x3 x7 x8 x9 x10), .i (r_gLine_4 x0 x4 x7 x8 x9 x10), .i (r_gLine_5 x0 x5 x7 x8 x9 x10), .i (r_gLine_6 x0 x6 x7 x8 x9 x10), .i (r_gLine_7 x0 x7 x8 x9 x10), .i (r_gLine_8 x0 x7 x8 x9 x10)] := by
  have h7 := g7 h
  obtain ⟨q1, q2, q3, q4, q5, q6, q7, q8, q9, q10⟩ := gb_lo h
  have w7 : IntKind.wrap IntKind.u64 x7 = x7 := wrap_u64 (by omega) (by omega)
  have w8 : IntKind.wrap IntKind.u64 x8 = x8 := wrap_u64 (by omega) (by omega)
  have w9 : IntKind.wrap IntKind.u64 x9 = x9 := wrap_u64 (by omega) (by omega)
  have w10 : IntKind.wrap IntKind.u64 x10 = x10 := wrap_u64 (by omega) (by omega)
  rw [w7, w8, w9, w10]
  obtain ⟨a, rfl⟩ := Int.eq_ofNat_of_zero_le (show 0 ≤ x7 by omega)
  obtain ⟨b, rfl⟩ := Int.eq_ofNat_of_zero_le (show 0 ≤ x8 by omega)
  obtain ⟨c, rfl⟩ := Int.eq_ofNat_of_zero_le (show 0 ≤ x9 by omega)
  obtain ⟨d, rfl⟩ := Int.eq_ofNat_of_zero_le (show 0 ≤ x10 by omega)
  obtain ⟨e1, f1, _⟩ := rWith_put (n := 0) (a := 0) (d := 4) (v := a) (by decide) (by decide) (by decide) (by simp only [Nat.reducePow]; omega)
  have f1' : r_rWith_0 0 0 4 (a : Int) = ((a : Nat) : Int) := by refine f1.trans ?_; simp
  obtain ⟨e2, f2, _⟩ := rWith_put (n := a) (a := 4) (d := 16) (v := b) (by simp only [Nat.reducePow]; omega) (by decide) (by decide) (by simp only [Nat.reducePow]; omega)
  obtain ⟨e3, f3, _⟩ := rWith_put (n := a + b * 2 ^ 4) (a := 20) (d := 4) (v := c) (by simp only [Nat.reducePow]; omega) (by decide) (by decide) (by simp only [Nat.reducePow]; omega)
  obtain ⟨e4, f4, _⟩ := rWith_put (n := a + b * 2 ^ 4 + c * 2 ^ 20) (a := 24) (d := 1) (v := d) (by simp only [Nat.reducePow]; omega) (by decide) (by decide) (by simp only [Nat.reducePow]; omega)
  have f2' : r_rWith_0 (a : Int) 4 16 (b : Int) = ((a + b * 2 ^ 4 : Nat) : Int) := f2
  have f3' : r_rWith_0 ((a + b * 2 ^ 4 : Nat) : Int) 20 4 (c : Int) = ((a + b * 2 ^ 4 + c * 2 ^ 20 : Nat) : Int) := f3
  have f4' : r_rWith_0 ((a + b * 2 ^ 4 + c * 2 ^ 20 : Nat) : Int) 24 1 (d : Int) = ((a + b * 2 ^ 4 + c * 2 ^ 20 + d * 2 ^ 24 : Nat) : Int) := f4
  rw [f1', f2', f3', f4']
  refine brT e1 (brT e2 (brT e3 (brT e4 (Tr.sat_ok.2 ?_))))
  rw [g0, g1, g2, g3, g4, g5, g6, g8, h7, h]
  simp only [cond_true, List.cons.injEq, At.i.injEq, true_and, and_true]
  simp only [Nat.reducePow]
  omega

theorem noL {x0 x1 x2 x3 x4 x5 x6 x7 x8 x9 x10 : Int} (h : gb x0 x7 x8 x9 x10 = false) : ([.i 0, .i 0, .i 0, .i 0, .i 0, .i 0, .i 0, .i 0, .i 1] : List At) = [.i (r_gLine_0 x0 x7 x8 x9 x10), .i (r_gLine_1 x0 x1 x7 x8 x9 x10), .i (r_gLine_2 x0 x2 x7 x8 x9 x10), .i (r_gLine_3 x0 x3 x7 x8 x9 x10), .i (r_gLine_4 x0 x4 x7 x8 x9 x10), .i (r_gLine_5 x0 x5 x7 x8 x9 x10), .i (r_gLine_6 x0 x6 x7 x8 x9 x10), .i (r_gLine_7 x0 x7 x8 x9 x10), .i (r_gLine_8 x0 x7 x8 x9 x10)] := by
  have e7 : r_gLine_7 x0 x7 x8 x9 x10 = 0 := by
    have := h
    unfold gb at this
    unfold r_gLine_7
    rw [chain2, this]; rfl
  rw [g0, g1, g2, g3, g4, g5, g6, g8, e7, h]; rfl

theorem t_qLine (x0 x1 x2 x3 x4 x5 x6 x7 x8 x9 x10 : Int) : (T_qLine x0 x1 x2 x3 x4 x5 x6 x7 x8 x9 x10).sat fun r => r = [.i (r_gLine_0 x0 x7 x8 x9 x10), .i (r_gLine_1 x0 x1 x7 x8 x9 x10), .i (r_gLine_2 x0 x2 x7 x8 x9 x10), .i (r_gLine_3 x0 x3 x7 x8 x9 x10), .i (r_gLine_4 x0 x4 x7 x8 x9 x10), .i (r_gLine_5 x0 x5 x7 x8 x9 x10), .i (r_gLine_6 x0 x6 x7 x8 x9 x10), .i (r_gLine_7 x0 x7 x8 x9 x10), .i (r_gLine_8 x0 x7 x8 x9 x10)] := by
  have c38 : (!bif decide (x0 ≥ (0 : Int)) then bif decide (x0 ≤ (1099511627776 : Int)) then bif decide (x7 ≥ (1 : Int)) then decide (x7 ≤ (5 : Int)) else false else false else false) = !decide (0 ≤ x0 ∧ x0 ≤ 1099511627776 ∧ 1 ≤ x7 ∧ x7 ≤ 5) := by
    congr 1
    simp only [cond_eq_ite, decide_eq_true_eq]
    repeat' split
    all_goals first
      | exact decide_eq_decide.2 (by omega)
      | (symm; exact decide_eq_false (by omega))
  have c66 : (!bif x7 == (3 : Int) then true else x7 == (4 : Int)) = !decide (x7 = 3 ∨ x7 = 4) := by
    congr 1
    by_cases h : x7 = 3
    · rw [h]; rfl
    · by_cases h4 : x7 = 4
      · rw [h4]; rfl
      · rw [decide_eq_false (by omega), beq_false_of_ne h, beq_false_of_ne h4]; rfl
  obtain ⟨mm, hm, h53⟩ : ∃ mm, List.getD [(0 : Int), (0 : Int), (0 : Int), (48 : Int), (48 : Int), (255 : Int)] (Int.toNat x7) (0 : Int) = mm ∧ (1 ≤ x7 → x7 ≤ 5 → (x7 = 1 ∨ x7 = 2) ∧ mm = 0 ∨ (x7 = 3 ∨ x7 = 4) ∧ mm = 48 ∨ x7 = 5 ∧ mm = 255) := by
    refine ⟨_, rfl, fun h1 h2 => ?_⟩
    obtain h | h | h | h | h : x7 = 1 ∨ x7 = 2 ∨ x7 = 3 ∨ x7 = 4 ∨ x7 = 5 := by omega
    all_goals subst h; decide
  unfold T_qLine T_qLine_s1 T_qLine_s0
  rw [c38, c66, hm]
  clear c38 c66 hm
  cases hg : gb x0 x7 x8 x9 x10 with
  | true =>
    have hi := (gb_iff x0 x7 x8 x9 x10).1 hg
    have lf := @leaf x0 x1 x2 x3 x4 x5 x6 x7 x8 x9 x10 hg
    obtain ⟨a1, a2, hi⟩ := hi
    have hm : 1 ≤ x7 ∧ x7 ≤ 5 := by clear h53; omega
    have h53 := h53 hm.1 hm.2
    have b1 : 0 ≤ x8 ∧ x8 ≤ mm ∧ 0 ≤ x9 ∧ x9 ≤ 7 ∧ 0 ≤ x10 ∧ x10 ≤ 1 := by omega
    have b2 : ¬ (x7 = 3 ∨ x7 = 4) → x9 = 0 := by omega
    have b3 : x10 = 0 ∨ x10 = 1 ∧ x7 = 3 := by omega
    clear hi h53 hg
    repeat' (first | refine brD (fun h => ?_) (fun h => ?_) | refine brND (fun h => ?_) (fun h => ?_) | refine brNE (fun h => ?_) (fun h => ?_) | refine brW (fun h => ?_) (fun h => ?_))
    all_goals first
      | (exfalso; omega; done)
      | exact lf
  | false =>
    have no : ¬ (0 ≤ x0 ∧ x0 ≤ 1099511627776 ∧ (1 ≤ x7 ∧ x7 ≤ 5) ∧ 0 ≤ x8 ∧ x8 ≤ mm ∧ 0 ≤ x9 ∧ x9 ≤ 7 ∧ (x7 = 3 ∨ x7 = 4 ∨ x9 = 0) ∧ (x10 = 0 ∨ x10 = 1 ∧ x7 = 3)) := by
      rintro ⟨h1, h2, h3, h4, h5, h6, h7, h8, h9⟩
      have h53 := h53 h3.1 h3.2
      have : gb x0 x7 x8 x9 x10 = true := (gb_iff x0 x7 x8 x9 x10).2 ⟨h1, h2, by omega⟩
      rw [hg] at this
      cases this
    have nl := @noL x0 x1 x2 x3 x4 x5 x6 x7 x8 x9 x10 hg
    clear h53 hg
    repeat' (first | refine brD (fun h => ?_) (fun h => ?_) | refine brND (fun h => ?_) (fun h => ?_) | refine brNE (fun h => ?_) (fun h => ?_) | refine brW (fun h => ?_) (fun h => ?_))
    all_goals first
      | exact Tr.sat_ok.2 nl
      | (exfalso; exact no ⟨by omega, by omega, by omega, by omega, by omega, by omega, by omega, by omega, by omega⟩)
      | (exfalso; omega)

theorem h_qLine : ∀ l r, (F_gLine l).val = some r → ∃ r', ((call Try.prog Γ_rWith y_qLine noLoops 100 Try.f9 (mkV ish_qLine l) (mkH ish_qLine l)).bind (leafO 0 osh_qLine)).val = some r' ∧ AtsEq r' r := by
  intro l r h
  have := val_ok h
  subst this
  obtain ⟨r', h1, h2⟩ := t_qLine (aI l 0) (aI l 1) (aI l 2) (aI l 3) (aI l 4) (aI l 5) (aI l 6) (aI l 7) (aI l 8) (aI l 9) (aI l 10)
  exact ⟨r', by rw [e_qLine]; exact h1, by rw [h2]; exact AtsEq.refl _⟩
theorem s2_qLine : SpecF Try.prog 9 (.pure (locP ish_qLine osh_qLine F_gLine)) :=
  spec_locP (sy := y_qLine) (fuel := 100) (Lp := noLoops) o_rWith mixed ⟨Try.func9, by kernel_rfl, by kernel_rfl⟩ ish_qLine osh_qLine rfl (noLoops_ok _) h_qLine
def Γ_SA : Specs := upd Γ_qLine 9 (.pure (locP ish_qLine osh_qLine F_gLine))
theorem o_SA : SpecOK Try.prog Γ_SA := SpecOK.upd o_qLine s2_qLine
end Go.Proofs.Ytpllgemflpnioaa.G

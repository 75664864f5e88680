/-
  The loops of Differ: which of the eight words are not the same.
-/
import Derived.Test.YtpllgemflpnioaaB6
namespace Go.Proofs.Ytpllgemflpnioaa.G
open Go Go.AM Go.Proofs

def difN (a b : List Int) : Nat → Int → Nat → Nat
  | 0, _, n => n
  | m + 1, x, n => bif List.getD a x.toNat 0 != List.getD b x.toNat 0 then difN a b m (x + 1) (n + 1) else difN a b m (x + 1) n

def difG (a b : List Int) : Nat → Int → Nat → (Nat → Nat → Int) → Nat → Nat → Int
  | 0, _, _, g => g
  | m + 1, x, n, g => bif List.getD a x.toNat 0 != List.getD b x.toNat 0 then difG a b m (x + 1) (n + 1) (appG g n (rowsF [[x]])) else difG a b m (x + 1) n g

def O_gDiffer_3 (x0 x1 x2 x3 x4 x5 x6 x7 x8 x9 x10 x11 x12 x13 x14 x15 x16 : Int) (n17 : Nat) (g17 : Nat → Nat → Int) : Tr (Ex × List At) :=
  .br 0 (decide (0 ≤ x0 ∧ x0 ≤ 8 ∧ n17 ≤ x0.toNat)) (.ok (.exit 0, [.i x1, .i x2, .i x3, .i x4, .i x5, .i x6, .i x7, .i x8, .i x9, .i x10, .i x11, .i x12, .i x13, .i x14, .i x15, .i x16, .r (difN [x1, x2, x3, x4, x5, x6, x7, x8] [x9, x10, x11, x12, x13, x14, x15, x16] (8 - x0).toNat x0 n17) (difG [x1, x2, x3, x4, x5, x6, x7, x8] [x9, x10, x11, x12, x13, x14, x15, x16] (8 - x0).toNat x0 n17 g17)])) .no
def OL_gDiffer_3 (l : List At) : Tr (Ex × List At) := O_gDiffer_3 (aI l 0) (aI l 1) (aI l 2) (aI l 3) (aI l 4) (aI l 5) (aI l 6) (aI l 7) (aI l 8) (aI l 9) (aI l 10) (aI l 11) (aI l 12) (aI l 13) (aI l 14) (aI l 15) (aI l 16) (aRn l 17) (aRg l 17)
def μ_gDiffer_3 (l : List At) : Nat := (8 - aI l 0).toNat

theorem rd_gDiffer_3 : ∀ l r, (OL_gDiffer_3 l).val = some r → RoundA BL_gDiffer_3 OL_gDiffer_3 μ_gDiffer_3 l r := by
  intro l r h
  obtain ⟨hc, h⟩ := guard_val h
  have := val_ok h
  subst this
  simp only [decide_eq_true_eq] at hc
  obtain ⟨c0, c1, c2⟩ := hc
  by_cases hk : aI l 0 < 8
  · have hw : IntKind.i64.wrap (aI l 0 + 1) = aI l 0 + 1 := wrap_i64 (by omega) (by omega)
    have w1 : within (aI l 0) 8 = true := by simp only [within, Bool.and_eq_true, decide_eq_true_eq]; omega
    have e : (8 - aI l 0).toNat = (8 - (aI l 0 + 1)).toNat + 1 := by omega
    cases hb : (List.getD [aI l 1, aI l 2, aI l 3, aI l 4, aI l 5, aI l 6, aI l 7, aI l 8] (aI l 0).toNat 0 != List.getD [aI l 9, aI l 10, aI l 11, aI l 12, aI l 13, aI l 14, aI l 15, aI l 16] (aI l 0).toNat 0) with
    | true =>
      refine .inl ⟨_, [.i (aI l 0 + 1), .i (aI l 1), .i (aI l 2), .i (aI l 3), .i (aI l 4), .i (aI l 5), .i (aI l 6), .i (aI l 7), .i (aI l 8), .i (aI l 9), .i (aI l 10), .i (aI l 11), .i (aI l 12), .i (aI l 13), .i (aI l 14), .i (aI l 15), .i (aI l 16), .r (aRn l 17 + 1) (appG (aRg l 17) (aRn l 17) (rowsF [[aI l 0]]))],
        (br_t (by simpa using hk)).trans ((br_t w1).trans ((br_t w1).trans ((br_t hb).trans ((br_t (by simp only [decide_eq_true_eq]; omega)).trans rfl)))), ?_, ?_, ?_⟩
      · exact atsEq_cons (atEq_i hw) (atsEq_cons (AtEq.refl _) (atsEq_cons (AtEq.refl _) (atsEq_cons (AtEq.refl _) (atsEq_cons (AtEq.refl _) (atsEq_cons (AtEq.refl _) (atsEq_cons (AtEq.refl _) (atsEq_cons (AtEq.refl _) (atsEq_cons (AtEq.refl _) (atsEq_cons (AtEq.refl _) (atsEq_cons (AtEq.refl _) (atsEq_cons (AtEq.refl _) (atsEq_cons (AtEq.refl _) (atsEq_cons (AtEq.refl _) (atsEq_cons (AtEq.refl _) (atsEq_cons (AtEq.refl _) (atsEq_cons (AtEq.refl _) (atsEq_cons (AtEq.refl _) atsEq_nil)))))))))))))))))
      · show (8 - (aI l 0 + 1)).toNat < (8 - aI l 0).toNat
        omega
      · refine (br_t (g := 0) ?_).trans ?_
        · show decide (0 ≤ aI l 0 + 1 ∧ aI l 0 + 1 ≤ 8 ∧ aRn l 17 + 1 ≤ (aI l 0 + 1).toNat) = true
          simp only [decide_eq_true_eq]; omega
        · have hs : difN [aI l 1, aI l 2, aI l 3, aI l 4, aI l 5, aI l 6, aI l 7, aI l 8] [aI l 9, aI l 10, aI l 11, aI l 12, aI l 13, aI l 14, aI l 15, aI l 16] (8 - aI l 0).toNat (aI l 0) (aRn l 17) = difN [aI l 1, aI l 2, aI l 3, aI l 4, aI l 5, aI l 6, aI l 7, aI l 8] [aI l 9, aI l 10, aI l 11, aI l 12, aI l 13, aI l 14, aI l 15, aI l 16] (8 - (aI l 0 + 1)).toNat (aI l 0 + 1) (aRn l 17 + 1) := by
            rw [e, difN, hb]; rfl
          have hs2 : difG [aI l 1, aI l 2, aI l 3, aI l 4, aI l 5, aI l 6, aI l 7, aI l 8] [aI l 9, aI l 10, aI l 11, aI l 12, aI l 13, aI l 14, aI l 15, aI l 16] (8 - aI l 0).toNat (aI l 0) (aRn l 17) (aRg l 17) = difG [aI l 1, aI l 2, aI l 3, aI l 4, aI l 5, aI l 6, aI l 7, aI l 8] [aI l 9, aI l 10, aI l 11, aI l 12, aI l 13, aI l 14, aI l 15, aI l 16] (8 - (aI l 0 + 1)).toNat (aI l 0 + 1) (aRn l 17 + 1) (appG (aRg l 17) (aRn l 17) (rowsF [[aI l 0]])) := by
            rw [e, difG, hb]; rfl
          rw [hs, hs2]
          rfl
    | false =>
      refine .inl ⟨_, [.i (aI l 0 + 1), .i (aI l 1), .i (aI l 2), .i (aI l 3), .i (aI l 4), .i (aI l 5), .i (aI l 6), .i (aI l 7), .i (aI l 8), .i (aI l 9), .i (aI l 10), .i (aI l 11), .i (aI l 12), .i (aI l 13), .i (aI l 14), .i (aI l 15), .i (aI l 16), .r (aRn l 17) (aRg l 17)],
        (br_t (by simpa using hk)).trans ((br_t w1).trans ((br_t w1).trans ((br_f hb).trans rfl))), ?_, ?_, ?_⟩
      · exact atsEq_cons (atEq_i hw) (atsEq_cons (AtEq.refl _) (atsEq_cons (AtEq.refl _) (atsEq_cons (AtEq.refl _) (atsEq_cons (AtEq.refl _) (atsEq_cons (AtEq.refl _) (atsEq_cons (AtEq.refl _) (atsEq_cons (AtEq.refl _) (atsEq_cons (AtEq.refl _) (atsEq_cons (AtEq.refl _) (atsEq_cons (AtEq.refl _) (atsEq_cons (AtEq.refl _) (atsEq_cons (AtEq.refl _) (atsEq_cons (AtEq.refl _) (atsEq_cons (AtEq.refl _) (atsEq_cons (AtEq.refl _) (atsEq_cons (AtEq.refl _) (atsEq_cons (AtEq.refl _) atsEq_nil)))))))))))))))))
      · show (8 - (aI l 0 + 1)).toNat < (8 - aI l 0).toNat
        omega
      · refine (br_t (g := 0) ?_).trans ?_
        · show decide (0 ≤ aI l 0 + 1 ∧ aI l 0 + 1 ≤ 8 ∧ aRn l 17 ≤ (aI l 0 + 1).toNat) = true
          simp only [decide_eq_true_eq]; omega
        · have hs : difN [aI l 1, aI l 2, aI l 3, aI l 4, aI l 5, aI l 6, aI l 7, aI l 8] [aI l 9, aI l 10, aI l 11, aI l 12, aI l 13, aI l 14, aI l 15, aI l 16] (8 - aI l 0).toNat (aI l 0) (aRn l 17) = difN [aI l 1, aI l 2, aI l 3, aI l 4, aI l 5, aI l 6, aI l 7, aI l 8] [aI l 9, aI l 10, aI l 11, aI l 12, aI l 13, aI l 14, aI l 15, aI l 16] (8 - (aI l 0 + 1)).toNat (aI l 0 + 1) (aRn l 17) := by
            rw [e, difN, hb]; rfl
          have hs2 : difG [aI l 1, aI l 2, aI l 3, aI l 4, aI l 5, aI l 6, aI l 7, aI l 8] [aI l 9, aI l 10, aI l 11, aI l 12, aI l 13, aI l 14, aI l 15, aI l 16] (8 - aI l 0).toNat (aI l 0) (aRn l 17) (aRg l 17) = difG [aI l 1, aI l 2, aI l 3, aI l 4, aI l 5, aI l 6, aI l 7, aI l 8] [aI l 9, aI l 10, aI l 11, aI l 12, aI l 13, aI l 14, aI l 15, aI l 16] (8 - (aI l 0 + 1)).toNat (aI l 0 + 1) (aRn l 17) (aRg l 17) := by
            rw [e, difG, hb]; rfl
          rw [hs, hs2]
          rfl
  · refine .inr ⟨.exit 0, _, by simp, br_f (by simpa using hk), rfl, ?_⟩
    have e : (8 - aI l 0).toNat = 0 := by omega
    rw [e]
    exact AtsEq.refl _

def O_rDiffer_3 (x0 x1 x2 x3 x4 x5 x6 x7 x8 x9 x10 x11 x12 x13 x14 x15 x16 : Int) (n17 : Nat) (g17 : Nat → Nat → Int) : Tr (Ex × List At) :=
  .br 0 (decide (0 ≤ x0 ∧ x0 ≤ 8 ∧ n17 ≤ x0.toNat)) (.ok (.exit 0, [.i x1, .i x2, .i x3, .i x4, .i x5, .i x6, .i x7, .i x8, .i x9, .i x10, .i x11, .i x12, .i x13, .i x14, .i x15, .i x16, .r (difN [x1, x2, x3, x4, x5, x6, x7, x8] [x9, x10, x11, x12, x13, x14, x15, x16] (8 - x0).toNat x0 n17) (difG [x1, x2, x3, x4, x5, x6, x7, x8] [x9, x10, x11, x12, x13, x14, x15, x16] (8 - x0).toNat x0 n17 g17)])) .no
def OL_rDiffer_3 (l : List At) : Tr (Ex × List At) := O_rDiffer_3 (aI l 0) (aI l 1) (aI l 2) (aI l 3) (aI l 4) (aI l 5) (aI l 6) (aI l 7) (aI l 8) (aI l 9) (aI l 10) (aI l 11) (aI l 12) (aI l 13) (aI l 14) (aI l 15) (aI l 16) (aRn l 17) (aRg l 17)
def μ_rDiffer_3 (l : List At) : Nat := (8 - aI l 0).toNat

theorem rd_rDiffer_3 : ∀ l r, (OL_rDiffer_3 l).val = some r → RoundA BL_rDiffer_3 OL_rDiffer_3 μ_rDiffer_3 l r := by
  intro l r h
  obtain ⟨hc, h⟩ := guard_val h
  have := val_ok h
  subst this
  simp only [decide_eq_true_eq] at hc
  obtain ⟨c0, c1, c2⟩ := hc
  by_cases hk : aI l 0 < 8
  · have hw : IntKind.i64.wrap (aI l 0 + 1) = aI l 0 + 1 := wrap_i64 (by omega) (by omega)
    have w1 : within (aI l 0) 8 = true := by simp only [within, Bool.and_eq_true, decide_eq_true_eq]; omega
    have e : (8 - aI l 0).toNat = (8 - (aI l 0 + 1)).toNat + 1 := by omega
    cases hb : (List.getD [aI l 1, aI l 2, aI l 3, aI l 4, aI l 5, aI l 6, aI l 7, aI l 8] (aI l 0).toNat 0 != List.getD [aI l 9, aI l 10, aI l 11, aI l 12, aI l 13, aI l 14, aI l 15, aI l 16] (aI l 0).toNat 0) with
    | true =>
      refine .inl ⟨_, [.i (aI l 0 + 1), .i (aI l 1), .i (aI l 2), .i (aI l 3), .i (aI l 4), .i (aI l 5), .i (aI l 6), .i (aI l 7), .i (aI l 8), .i (aI l 9), .i (aI l 10), .i (aI l 11), .i (aI l 12), .i (aI l 13), .i (aI l 14), .i (aI l 15), .i (aI l 16), .r (aRn l 17 + 1) (appG (aRg l 17) (aRn l 17) (rowsF [[aI l 0]]))],
        (br_t (by simpa using hk)).trans ((br_t w1).trans ((br_t w1).trans ((br_t hb).trans ((br_t (by simp only [decide_eq_true_eq]; omega)).trans rfl)))), ?_, ?_, ?_⟩
      · exact atsEq_cons (atEq_i hw) (atsEq_cons (AtEq.refl _) (atsEq_cons (AtEq.refl _) (atsEq_cons (AtEq.refl _) (atsEq_cons (AtEq.refl _) (atsEq_cons (AtEq.refl _) (atsEq_cons (AtEq.refl _) (atsEq_cons (AtEq.refl _) (atsEq_cons (AtEq.refl _) (atsEq_cons (AtEq.refl _) (atsEq_cons (AtEq.refl _) (atsEq_cons (AtEq.refl _) (atsEq_cons (AtEq.refl _) (atsEq_cons (AtEq.refl _) (atsEq_cons (AtEq.refl _) (atsEq_cons (AtEq.refl _) (atsEq_cons (AtEq.refl _) (atsEq_cons (AtEq.refl _) atsEq_nil)))))))))))))))))
      · show (8 - (aI l 0 + 1)).toNat < (8 - aI l 0).toNat
        omega
      · refine (br_t (g := 0) ?_).trans ?_
        · show decide (0 ≤ aI l 0 + 1 ∧ aI l 0 + 1 ≤ 8 ∧ aRn l 17 + 1 ≤ (aI l 0 + 1).toNat) = true
          simp only [decide_eq_true_eq]; omega
        · have hs : difN [aI l 1, aI l 2, aI l 3, aI l 4, aI l 5, aI l 6, aI l 7, aI l 8] [aI l 9, aI l 10, aI l 11, aI l 12, aI l 13, aI l 14, aI l 15, aI l 16] (8 - aI l 0).toNat (aI l 0) (aRn l 17) = difN [aI l 1, aI l 2, aI l 3, aI l 4, aI l 5, aI l 6, aI l 7, aI l 8] [aI l 9, aI l 10, aI l 11, aI l 12, aI l 13, aI l 14, aI l 15, aI l 16] (8 - (aI l 0 + 1)).toNat (aI l 0 + 1) (aRn l 17 + 1) := by
            rw [e, difN, hb]; rfl
          have hs2 : difG [aI l 1, aI l 2, aI l 3, aI l 4, aI l 5, aI l 6, aI l 7, aI l 8] [aI l 9, aI l 10, aI l 11, aI l 12, aI l 13, aI l 14, aI l 15, aI l 16] (8 - aI l 0).toNat (aI l 0) (aRn l 17) (aRg l 17) = difG [aI l 1, aI l 2, aI l 3, aI l 4, aI l 5, aI l 6, aI l 7, aI l 8] [aI l 9, aI l 10, aI l 11, aI l 12, aI l 13, aI l 14, aI l 15, aI l 16] (8 - (aI l 0 + 1)).toNat (aI l 0 + 1) (aRn l 17 + 1) (appG (aRg l 17) (aRn l 17) (rowsF [[aI l 0]])) := by
            rw [e, difG, hb]; rfl
          rw [hs, hs2]
          rfl
    | false =>
      refine .inl ⟨_, [.i (aI l 0 + 1), .i (aI l 1), .i (aI l 2), .i (aI l 3), .i (aI l 4), .i (aI l 5), .i (aI l 6), .i (aI l 7), .i (aI l 8), .i (aI l 9), .i (aI l 10), .i (aI l 11), .i (aI l 12), .i (aI l 13), .i (aI l 14), .i (aI l 15), .i (aI l 16), .r (aRn l 17) (aRg l 17)],
        (br_t (by simpa using hk)).trans ((br_t w1).trans ((br_t w1).trans ((br_f hb).trans rfl))), ?_, ?_, ?_⟩
      · exact atsEq_cons (atEq_i hw) (atsEq_cons (AtEq.refl _) (atsEq_cons (AtEq.refl _) (atsEq_cons (AtEq.refl _) (atsEq_cons (AtEq.refl _) (atsEq_cons (AtEq.refl _) (atsEq_cons (AtEq.refl _) (atsEq_cons (AtEq.refl _) (atsEq_cons (AtEq.refl _) (atsEq_cons (AtEq.refl _) (atsEq_cons (AtEq.refl _) (atsEq_cons (AtEq.refl _) (atsEq_cons (AtEq.refl _) (atsEq_cons (AtEq.refl _) (atsEq_cons (AtEq.refl _) (atsEq_cons (AtEq.refl _) (atsEq_cons (AtEq.refl _) (atsEq_cons (AtEq.refl _) atsEq_nil)))))))))))))))))
      · show (8 - (aI l 0 + 1)).toNat < (8 - aI l 0).toNat
        omega
      · refine (br_t (g := 0) ?_).trans ?_
        · show decide (0 ≤ aI l 0 + 1 ∧ aI l 0 + 1 ≤ 8 ∧ aRn l 17 ≤ (aI l 0 + 1).toNat) = true
          simp only [decide_eq_true_eq]; omega
        · have hs : difN [aI l 1, aI l 2, aI l 3, aI l 4, aI l 5, aI l 6, aI l 7, aI l 8] [aI l 9, aI l 10, aI l 11, aI l 12, aI l 13, aI l 14, aI l 15, aI l 16] (8 - aI l 0).toNat (aI l 0) (aRn l 17) = difN [aI l 1, aI l 2, aI l 3, aI l 4, aI l 5, aI l 6, aI l 7, aI l 8] [aI l 9, aI l 10, aI l 11, aI l 12, aI l 13, aI l 14, aI l 15, aI l 16] (8 - (aI l 0 + 1)).toNat (aI l 0 + 1) (aRn l 17) := by
            rw [e, difN, hb]; rfl
          have hs2 : difG [aI l 1, aI l 2, aI l 3, aI l 4, aI l 5, aI l 6, aI l 7, aI l 8] [aI l 9, aI l 10, aI l 11, aI l 12, aI l 13, aI l 14, aI l 15, aI l 16] (8 - aI l 0).toNat (aI l 0) (aRn l 17) (aRg l 17) = difG [aI l 1, aI l 2, aI l 3, aI l 4, aI l 5, aI l 6, aI l 7, aI l 8] [aI l 9, aI l 10, aI l 11, aI l 12, aI l 13, aI l 14, aI l 15, aI l 16] (8 - (aI l 0 + 1)).toNat (aI l 0 + 1) (aRn l 17) (aRg l 17) := by
            rw [e, difG, hb]; rfl
          rw [hs, hs2]
          rfl
  · refine .inr ⟨.exit 0, _, by simp, br_f (by simpa using hk), rfl, ?_⟩
    have e : (8 - aI l 0).toNat = 0 := by omega
    rw [e]
    exact AtsEq.refl _
end Go.Proofs.Ytpllgemflpnioaa.G

/-
  The loop of RegsDiffer: the words that differ, one after another, are made the same.
-/
import Derived.Test.YtpllgemflpnioaaB7
namespace Go.Proofs.Ytpllgemflpnioaa.G
open Go Go.AM Go.Proofs

def okD (a b : List Int) (x : Int) (n : Nat) (g : Nat → Nat → Int) (m : Nat) (h : Nat → Nat → Int) : Bool :=
  decide (0 ≤ x ∧ x ≤ n ∧ n ≤ 1000 ∧ m = n) && ((List.range n).all (fun j => g j 0 == h j 0 && within (g j 0) 8) &&
    (List.range 8).all (fun k => List.getD a k 0 == List.getD b k 0 || (List.range n).any (fun j => decide (x.toNat ≤ j) && g j 0 == (k : Int))))

theorem okD_iff {a b : List Int} {x : Int} {n : Nat} {g : Nat → Nat → Int} {m : Nat} {h : Nat → Nat → Int} : okD a b x n g m h = true ↔
    ((0 ≤ x ∧ x ≤ n ∧ n ≤ 1000 ∧ m = n) ∧ (∀ j, j < n → g j 0 = h j 0 ∧ 0 ≤ g j 0 ∧ g j 0 < 8) ∧ ∀ k, k < 8 → (List.getD a k 0 = List.getD b k 0 ∨ ∃ j, j < n ∧ x.toNat ≤ j ∧ g j 0 = (k : Int))) := by
  unfold okD within
  simp only [Bool.and_eq_true, decide_eq_true_eq, List.all_eq_true, List.mem_range, beq_iff_eq, Bool.or_eq_true, List.any_eq_true]
  rfl

def O_RegsDiffer_7 (x0 x1 x2 x3 x4 x5 x6 x7 x8 x9 x10 x11 x12 x13 x14 x15 x16 : Int) (n17 : Nat) (g17 : Nat → Nat → Int) (n18 : Nat) (g18 : Nat → Nat → Int) : Tr (Ex × List At) :=
  .br 0 (okD [x1, x2, x3, x4, x5, x6, x7, x8] [x9, x10, x11, x12, x13, x14, x15, x16] x0 n17 g17 n18 g18) (.ok (.exit 0, [.i x9, .i x10, .i x11, .i x12, .i x13, .i x14, .i x15, .i x16, .i x9, .i x10, .i x11, .i x12, .i x13, .i x14, .i x15, .i x16, .r n17 g17, .r n18 g18])) .no
def OL_RegsDiffer_7 (l : List At) : Tr (Ex × List At) := O_RegsDiffer_7 (aI l 0) (aI l 1) (aI l 2) (aI l 3) (aI l 4) (aI l 5) (aI l 6) (aI l 7) (aI l 8) (aI l 9) (aI l 10) (aI l 11) (aI l 12) (aI l 13) (aI l 14) (aI l 15) (aI l 16) (aRn l 17) (aRg l 17) (aRn l 18) (aRg l 18)
def μ_RegsDiffer_7 (l : List At) : Nat := (aRn l 17 - aI l 0).toNat

theorem turnA {a0 a1 a2 a3 a4 a5 a6 a7 v : Int} {J : Nat} : ∀ k, k < 8 → List.getD [(bif Nat.beq J 0 then v else a0), (bif Nat.beq J 1 then v else a1), (bif Nat.beq J 2 then v else a2), (bif Nat.beq J 3 then v else a3), (bif Nat.beq J 4 then v else a4), (bif Nat.beq J 5 then v else a5), (bif Nat.beq J 6 then v else a6), (bif Nat.beq J 7 then v else a7)] k 0 = if J = k then v else List.getD [a0, a1, a2, a3, a4, a5, a6, a7] k 0 := by
  have hb : ∀ k, (bif Nat.beq J k then v else (0 : Int)) = if J = k then v else 0 := fun k => by
    by_cases h : J = k
    · subst h; rw [Nat.beq_refl]; simp
    · have : Nat.beq J k = false := by
        cases hb : Nat.beq J k
        · rfl
        · exact absurd (Nat.eq_of_beq_eq_true hb) h
      rw [this]; simp [h]
  have hc : ∀ (k : Nat) (w : Int), (bif Nat.beq J k then v else w) = if J = k then v else w := fun k w => by
    by_cases h : J = k
    · subst h; rw [Nat.beq_refl]; simp
    · have : Nat.beq J k = false := by
        cases hb : Nat.beq J k
        · rfl
        · exact absurd (Nat.eq_of_beq_eq_true hb) h
      rw [this]; simp [h]
  intro k hk
  match k, hk with
  | 0, _ => exact hc 0 a0
  | 1, _ => exact hc 1 a1
  | 2, _ => exact hc 2 a2
  | 3, _ => exact hc 3 a3
  | 4, _ => exact hc 4 a4
  | 5, _ => exact hc 5 a5
  | 6, _ => exact hc 6 a6
  | 7, _ => exact hc 7 a7

theorem rd_RegsDiffer_7 : ∀ l r, (OL_RegsDiffer_7 l).val = some r → RoundA BL_RegsDiffer_7 OL_RegsDiffer_7 μ_RegsDiffer_7 l r := by
  intro l r h
  obtain ⟨hc, h⟩ := guard_val h
  have := val_ok h
  subst this
  obtain ⟨⟨c0, c1, c2, c3⟩, c4, c5⟩ := okD_iff.1 hc
  by_cases hk : aI l 0 < (aRn l 17 : Int)
  · have hw : IntKind.i64.wrap (aI l 0 + 1) = aI l 0 + 1 := wrap_i64 (by omega) (by omega)
    have w1 : within (aI l 0) (aRn l 17) = true := by simp only [within, Bool.and_eq_true, decide_eq_true_eq]; omega
    have w2 : within (aI l 0) (aRn l 18) = true := by rw [c3]; exact w1
    obtain ⟨d1, d2, d3⟩ := c4 (aI l 0).toNat (by omega)
    have w3 : within (aRg l 17 (aI l 0).toNat 0) 8 = true := by simp only [within, Bool.and_eq_true, decide_eq_true_eq]; omega
    have ne : ((aRg l 17 (aI l 0).toNat 0) != aRg l 18 (aI l 0).toNat 0) = false := by rw [bne_eq_false_iff_eq]; exact d1
    refine .inl ⟨_, [.i (aI l 0 + 1), .i (bif Nat.beq (Int.toNat (aRg l 17 (aI l 0).toNat 0)) 0 then List.getD [aI l 9, aI l 10, aI l 11, aI l 12, aI l 13, aI l 14, aI l 15, aI l 16] (Int.toNat (aRg l 17 (aI l 0).toNat 0)) 0 else aI l 1), .i (bif Nat.beq (Int.toNat (aRg l 17 (aI l 0).toNat 0)) 1 then List.getD [aI l 9, aI l 10, aI l 11, aI l 12, aI l 13, aI l 14, aI l 15, aI l 16] (Int.toNat (aRg l 17 (aI l 0).toNat 0)) 0 else aI l 2), .i (bif Nat.beq (Int.toNat (aRg l 17 (aI l 0).toNat 0)) 2 then List.getD [aI l 9, aI l 10, aI l 11, aI l 12, aI l 13, aI l 14, aI l 15, aI l 16] (Int.toNat (aRg l 17 (aI l 0).toNat 0)) 0 else aI l 3), .i (bif Nat.beq (Int.toNat (aRg l 17 (aI l 0).toNat 0)) 3 then List.getD [aI l 9, aI l 10, aI l 11, aI l 12, aI l 13, aI l 14, aI l 15, aI l 16] (Int.toNat (aRg l 17 (aI l 0).toNat 0)) 0 else aI l 4), .i (bif Nat.beq (Int.toNat (aRg l 17 (aI l 0).toNat 0)) 4 then List.getD [aI l 9, aI l 10, aI l 11, aI l 12, aI l 13, aI l 14, aI l 15, aI l 16] (Int.toNat (aRg l 17 (aI l 0).toNat 0)) 0 else aI l 5), .i (bif Nat.beq (Int.toNat (aRg l 17 (aI l 0).toNat 0)) 5 then List.getD [aI l 9, aI l 10, aI l 11, aI l 12, aI l 13, aI l 14, aI l 15, aI l 16] (Int.toNat (aRg l 17 (aI l 0).toNat 0)) 0 else aI l 6), .i (bif Nat.beq (Int.toNat (aRg l 17 (aI l 0).toNat 0)) 6 then List.getD [aI l 9, aI l 10, aI l 11, aI l 12, aI l 13, aI l 14, aI l 15, aI l 16] (Int.toNat (aRg l 17 (aI l 0).toNat 0)) 0 else aI l 7), .i (bif Nat.beq (Int.toNat (aRg l 17 (aI l 0).toNat 0)) 7 then List.getD [aI l 9, aI l 10, aI l 11, aI l 12, aI l 13, aI l 14, aI l 15, aI l 16] (Int.toNat (aRg l 17 (aI l 0).toNat 0)) 0 else aI l 8), .i (aI l 9), .i (aI l 10), .i (aI l 11), .i (aI l 12), .i (aI l 13), .i (aI l 14), .i (aI l 15), .i (aI l 16), .r (aRn l 17) (aRg l 17), .r (aRn l 18) (aRg l 18)],
      (br_t (by simpa using hk)).trans ((br_t w1).trans ((br_t w2).trans ((br_f ne).trans ((br_t w1).trans ((br_t w1).trans ((br_t w3).trans ((br_t w3).trans rfl))))))), ?_, ?_, ?_⟩
    · exact atsEq_cons (atEq_i hw) (AtsEq.refl _)
    · show (aRn l 17 - (aI l 0 + 1)).toNat < (aRn l 17 - aI l 0).toNat
      omega
    · refine (br_t (g := 0) ?_).trans rfl
      refine okD_iff.2 ⟨⟨show 0 ≤ aI l 0 + 1 by omega, show aI l 0 + 1 ≤ (aRn l 17 : Int) by omega, c2, c3⟩, c4, fun k hk8 => ?_⟩
      have ht := turnA (a0 := aI l 1) (a1 := aI l 2) (a2 := aI l 3) (a3 := aI l 4) (a4 := aI l 5) (a5 := aI l 6) (a6 := aI l 7) (a7 := aI l 8) (v := List.getD [aI l 9, aI l 10, aI l 11, aI l 12, aI l 13, aI l 14, aI l 15, aI l 16] (Int.toNat (aRg l 17 (aI l 0).toNat 0)) 0) (J := Int.toNat (aRg l 17 (aI l 0).toNat 0)) k hk8
      by_cases hJ : Int.toNat (aRg l 17 (aI l 0).toNat 0) = k
      · left
        refine ht.trans ?_
        rw [if_pos hJ, hJ]
        rfl
      · rw [if_neg hJ] at ht
        rcases c5 k hk8 with e | ⟨j, j1, j2, j3⟩
        · exact .inl (ht.trans e)
        · refine .inr ⟨j, j1, ?_, j3⟩
          have hne : j ≠ (aI l 0).toNat := by
            rintro rfl
            exact hJ (by rw [j3]; rfl)
          show (aI l 0 + 1).toNat ≤ j
          omega
  · refine .inr ⟨.exit 0, _, by simp, br_f (by simpa using hk), rfl, ?_⟩
    have same : ∀ k, k < 8 → List.getD [aI l 1, aI l 2, aI l 3, aI l 4, aI l 5, aI l 6, aI l 7, aI l 8] k 0 = List.getD [aI l 9, aI l 10, aI l 11, aI l 12, aI l 13, aI l 14, aI l 15, aI l 16] k 0 := fun k hk8 => by
      rcases c5 k hk8 with e | ⟨j, j1, j2, j3⟩
      · exact e
      · omega
    exact atsEq_cons (atEq_i (same 0 (by decide))) (atsEq_cons (atEq_i (same 1 (by decide))) (atsEq_cons (atEq_i (same 2 (by decide))) (atsEq_cons (atEq_i (same 3 (by decide))) (atsEq_cons (atEq_i (same 4 (by decide))) (atsEq_cons (atEq_i (same 5 (by decide))) (atsEq_cons (atEq_i (same 6 (by decide))) (atsEq_cons (atEq_i (same 7 (by decide))) (AtsEq.refl _))))))))

theorem dif_spec (a b : List Int) : ∀ (m : Nat) (x : Int) (n : Nat) (g : Nat → Nat → Int), 0 ≤ x →
    n ≤ difN a b m x n ∧ difN a b m x n ≤ n + m ∧ (∀ j, j < n → difG a b m x n g j 0 = g j 0) ∧ (∀ j, n ≤ j → j < difN a b m x n → x ≤ difG a b m x n g j 0 ∧ difG a b m x n g j 0 < x + m) ∧
    (∀ k : Nat, x ≤ k → (k : Int) < x + m → List.getD a k 0 ≠ List.getD b k 0 → ∃ j, j < difN a b m x n ∧ difG a b m x n g j 0 = (k : Int))
  | 0, x, n, g, hx => ⟨Nat.le_refl _, Nat.le_refl _, fun _ _ => rfl, fun j h1 h2 => absurd h2 (by simp only [difN]; omega), fun k h1 h2 => absurd h2 (by omega)⟩
  | m + 1, x, n, g, hx => by
    cases hb : (List.getD a x.toNat 0 != List.getD b x.toNat 0) with
    | true =>
      obtain ⟨h1, h2, h3, h4, h5⟩ := dif_spec a b m (x + 1) (n + 1) (appG g n (rowsF [[x]])) (by omega)
      have e1 : difN a b (m + 1) x n = difN a b m (x + 1) (n + 1) := by rw [difN, hb]; rfl
      have e2 : difG a b (m + 1) x n g = difG a b m (x + 1) (n + 1) (appG g n (rowsF [[x]])) := by rw [difG, hb]; rfl
      have en : difG a b m (x + 1) (n + 1) (appG g n (rowsF [[x]])) n 0 = x := by
        rw [h3 n (by omega)]
        simp [appG, rowsF]
      rw [e1, e2]
      refine ⟨by omega, by omega, fun j hj => ?_, fun j j1 j2 => ?_, fun k k1 k2 k3 => ?_⟩
      · rw [h3 j (by omega)]
        simp [appG, hj]
      · by_cases hj : j = n
        · subst hj; rw [en]; omega
        · have := h4 j (by omega) j2
          omega
      · by_cases hk : (k : Int) = x
        · exact ⟨n, by omega, by rw [en, hk]⟩
        · exact h5 k (by omega) (by omega) k3
    | false =>
      obtain ⟨h1, h2, h3, h4, h5⟩ := dif_spec a b m (x + 1) n g (by omega)
      have e1 : difN a b (m + 1) x n = difN a b m (x + 1) n := by rw [difN, hb]; rfl
      have e2 : difG a b (m + 1) x n g = difG a b m (x + 1) n g := by rw [difG, hb]; rfl
      rw [e1, e2]
      refine ⟨by omega, by omega, h3, fun j j1 j2 => ?_, fun k k1 k2 k3 => ?_⟩
      · have := h4 j j1 j2
        omega
      · by_cases hk : (k : Int) = x
        · rw [bne_eq_false_iff_eq] at hb
          rw [← hk] at hb
          exact absurd hb k3
        · exact h5 k (by omega) (by omega) k3

theorem dif_ok (a b : List Int) : okD a b 0 (difN a b 8 0 0) (difG a b 8 0 0 fun _ _ => 0) (difN a b 8 0 0) (difG a b 8 0 0 fun _ _ => 0) = true := by
  obtain ⟨h1, h2, h3, h4, h5⟩ := dif_spec a b 8 0 0 (fun _ _ => 0) (by decide)
  refine okD_iff.2 ⟨⟨by decide, by omega, by omega, rfl⟩, fun j hj => ?_, fun k hk => ?_⟩
  · have := h4 j (by omega) hj
    exact ⟨rfl, by omega, by omega⟩
  · by_cases he : List.getD a k 0 = List.getD b k 0
    · exact .inl he
    · obtain ⟨j, j1, j2⟩ := h5 k (by omega) (by omega) he
      exact .inr ⟨j, j1, by simp, j2⟩
end Go.Proofs.Ytpllgemflpnioaa.G

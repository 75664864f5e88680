/-
  What the loop that looks for a number that is no object's comes to.
-/
import Derived.Test.YtepdekambalmhaaG1
import Derived.Test.YtepdekambalmhaaAnR
namespace Go.Proofs.Ytepdekambalmhaa.G
open Go Go.AM Go.Proofs

/-- The first of 'm' from 'i' on, or behind them. -/
def findI (p : Nat → Bool) : Nat → Nat → Nat
  | 0, i => i
  | m + 1, i => bif p i then i else findI p m (i + 1)

theorem findI_hit {p : Nat → Bool} {m i : Nat} (hm : 0 < m) (h : p i = true) : findI p m i = i := by
  obtain ⟨k, rfl⟩ : ∃ k, m = k + 1 := ⟨m - 1, by omega⟩
  rw [findI, h]; rfl
theorem findI_step {p : Nat → Bool} {m m' i : Nat} (hm : m = m' + 1) (h : p i = false) : findI p m i = findI p m' (i + 1) := by
  subst hm
  rw [findI, h]; rfl
theorem findI_spec (p : Nat → Bool) : ∀ (m i : Nat), i ≤ findI p m i ∧ findI p m i ≤ i + m ∧ (findI p m i < i + m → p (findI p m i) = true) ∧ ∀ k, i ≤ k → k < findI p m i → p k = false
  | 0, i => ⟨Nat.le_refl _, Nat.le_refl _, fun h => by simp [findI] at h, fun k h1 h2 => by simp [findI] at h2; omega⟩
  | m + 1, i => by
    cases h : p i with
    | true =>
      rw [findI_hit (by omega) h]
      exact ⟨Nat.le_refl _, by omega, fun _ => h, fun k h1 h2 => by omega⟩
    | false =>
      rw [findI_step rfl h]
      obtain ⟨a, b, c, d⟩ := findI_spec p m (i + 1)
      refine ⟨by omega, by omega, fun hl => c (by omega), fun k h1 h2 => ?_⟩
      rcases Nat.eq_or_lt_of_le h1 with e | e
      · subst e; exact h
      · exact d k e h2

def O_idxF_2 (x0 : Nat) (x1 : Nat) (x2 : Int) (x3 : Int) (_n4 : Nat) (g4 : Nat → Nat → Int) : Tr (Ex × List At) :=
  .br 0 (decide (0 ≤ x3 ∧ x2 = x1 ∧ x3 ≤ x2 ∧ x2 ≤ 9223372036854775807))
    (.br 0 (decide (findI (fun k => r_notId_0 (g4 (x0 + k) 0)) (x2 - x3).toNat x3.toNat < x2.toNat))
      (.ok (.ret, [.i (findI (fun k => r_notId_0 (g4 (x0 + k) 0)) (x2 - x3).toNat x3.toNat : Nat)])) (.ok (.exit 0, []))) .no
def OL_idxF_2 (l : List At) : Tr (Ex × List At) := O_idxF_2 (aN l 0) (aN l 1) (aI l 2) (aI l 3) (aRn l 4) (aRg l 4)
def μ_idxF_2 (l : List At) : Nat := (aI l 2 - aI l 3).toNat

theorem rd_idxF_2 : ∀ l r, (OL_idxF_2 l).val = some r → RoundS BL_idxF_2 OL_idxF_2 μ_idxF_2 l r := by
  intro l r h
  obtain ⟨hc, h⟩ := guard_val h
  simp only [decide_eq_true_eq] at hc
  obtain ⟨c0, c1, c2, c3⟩ := hc
  unfold RoundS BL_idxF_2 B_idxF_2
  refine brC (fun h1 => ?_) (fun h1 => ?_)
  · simp only [decide_eq_true_eq] at h1
    have hw : IntKind.i64.wrap (aI l 3 + 1) = aI l 3 + 1 := wrap_i64 (by omega) (by omega)
    refine brT (by simp only [within, Bool.and_eq_true, decide_eq_true_eq]; omega) (brC (fun h3 => ?_) (fun h3 => ?_))
    · have hf := findI_hit (p := fun k => r_notId_0 (aRg l 4 (aN l 0 + k) 0)) (m := (aI l 2 - aI l 3).toNat) (i := (aI l 3).toNat) (by omega) h3
      rw [hf, br_t (by simp only [decide_eq_true_eq]; omega)] at h
      have := val_ok h
      subst this
      exact out_ (by simp) rfl (atsEq_cons (atEq_i (by simp; omega)) atsEq_nil)
    · have hf := findI_step (p := fun k => r_notId_0 (aRg l 4 (aN l 0 + k) 0)) (m := (aI l 2 - aI l 3).toNat) (m' := (aI l 2 - (aI l 3 + 1)).toNat) (i := (aI l 3).toNat) (by omega) h3
      refine on_ [.n (aN l 0), .n (aN l 1), .i (aI l 2), .i (aI l 3 + 1), .r (aRn l 4) (aRg l 4)] r (by rw [hw]; exact AtsEq.refl _) ?_ ?_ rfl (AtsEq.refl _)
      · show (aI l 2 - (aI l 3 + 1)).toNat < (aI l 2 - aI l 3).toNat
        omega
      · refine (br_t (g := 0) ?_).trans ?_
        · show decide (0 ≤ aI l 3 + 1 ∧ aI l 2 = aN l 1 ∧ aI l 3 + 1 ≤ aI l 2 ∧ aI l 2 ≤ 9223372036854775807) = true
          simp only [decide_eq_true_eq]; omega
        · rw [hf, show (aI l 3).toNat + 1 = (aI l 3 + 1).toNat by omega] at h
          exact h
  · simp only [decide_eq_false_iff_not] at h1
    have e : (aI l 2 - aI l 3).toNat = 0 := by omega
    rw [e, br_f (decide_eq_false (by simp only [findI]; omega))] at h
    have := val_ok h
    subst this
    exact out_ (by simp) rfl atsEq_nil
end Go.Proofs.Ytepdekambalmhaa.G

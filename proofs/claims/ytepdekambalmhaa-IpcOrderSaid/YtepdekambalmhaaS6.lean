/-
  What the loop that compares two rows of numbers comes to.
-/
import Derived.Test.YtepdekambalmhaaG6
namespace Go.Proofs.Ytepdekambalmhaa.G
open Go Go.AM Go.Proofs

def sameP (x0 x2 : Nat) (g5 g6 : Nat → Nat → Int) (k : Nat) : Bool := g5 (x0 + k) 0 != g6 (x2 + k) 0
def O_same_4 (x0 x1 x2 x3 : Nat) (x4 : Int) (_n5 : Nat) (g5 : Nat → Nat → Int) (_n6 : Nat) (g6 : Nat → Nat → Int) : Tr (Ex × List At) :=
  .br 0 (decide (0 ≤ x4 ∧ x1 = x3 ∧ x4 ≤ x1 ∧ x1 ≤ 9223372036854775807))
    (.br 0 (decide (findI (sameP x0 x2 g5 g6) (x1 - x4).toNat x4.toNat < x1)) (.ok (.ret, [.b false])) (.ok (.exit 0, []))) .no
def OL_same_4 (l : List At) : Tr (Ex × List At) := O_same_4 (aN l 0) (aN l 1) (aN l 2) (aN l 3) (aI l 4) (aRn l 5) (aRg l 5) (aRn l 6) (aRg l 6)
def μ_same_4 (l : List At) : Nat := (aN l 1 - aI l 4).toNat

theorem rd_same_4 : ∀ l r, (OL_same_4 l).val = some r → RoundS BL_same_4 OL_same_4 μ_same_4 l r := by
  intro l r h
  obtain ⟨hc, h⟩ := guard_val h
  simp only [decide_eq_true_eq] at hc
  obtain ⟨c0, c1, c2, c3⟩ := hc
  unfold RoundS BL_same_4 B_same_4
  refine brD (fun h1 => ?_) (fun h1 => ?_)
  · have hw : IntKind.i64.wrap (aI l 4 + 1) = aI l 4 + 1 := wrap_i64 (by omega) (by omega)
    rw [hw]
    refine brW (fun _ => brW (fun _ => brC (fun h3 => ?_) (fun h3 => ?_)) (fun hh => by exfalso; omega)) (fun hh => by exfalso; omega)
    · have hf := findI_hit (p := sameP (aN l 0) (aN l 2) (aRg l 5) (aRg l 6)) (m := (aN l 1 - aI l 4).toNat) (i := (aI l 4).toNat) (by omega) h3
      rw [hf, br_t (decide_eq_true (by omega))] at h
      have := val_ok h
      subst this
      exact out_ (by simp) rfl (AtsEq.refl _)
    · have hf := findI_step (p := sameP (aN l 0) (aN l 2) (aRg l 5) (aRg l 6)) (m := (aN l 1 - aI l 4).toNat) (m' := (aN l 1 - (aI l 4 + 1)).toNat) (i := (aI l 4).toNat) (by omega) h3
      refine on_ _ r (AtsEq.refl _) ?_ ?_ rfl (AtsEq.refl _)
      · show (aN l 1 - (aI l 4 + 1)).toNat < (aN l 1 - aI l 4).toNat
        omega
      · refine (br_t (g := 0) ?_).trans ?_
        · show decide (0 ≤ aI l 4 + 1 ∧ aN l 1 = aN l 3 ∧ aI l 4 + 1 ≤ aN l 1 ∧ aN l 1 ≤ 9223372036854775807) = true
          simp only [decide_eq_true_eq]; omega
        · rw [hf, show (aI l 4).toNat + 1 = (aI l 4 + 1).toNat by omega] at h
          exact h
  · have e : (aN l 1 - aI l 4).toNat = 0 := by omega
    rw [e, br_f (decide_eq_false (by simp only [findI]; omega))] at h
    have := val_ok h
    subst this
    exact out_ (by simp) rfl atsEq_nil
end Go.Proofs.Ytepdekambalmhaa.G

/-
  What the loop in which they are met, one behind the other, comes to.
-/
import Derived.Test.YtepdekambalmhaaC6
namespace Go.Proofs.Ytepdekambalmhaa.G
open Go Go.AM Go.Proofs

def pre22 (x1 x2 x3 x4 x5 x6 x7 x8 x9 x10 x11 : Int) (n12 : Nat) (g12 : Nat → Nat → Int) : Prop :=
  (x1 = 3 ∨ x1 = 4) ∧ ((x2 = 3 ∨ x2 = 4) ∧ x2 ≠ x1) ∧ 0 ≤ x3 ∧ x3 ≤ n12 ∧ n12 ≤ 7 ∧ (x4 = lineAt x1 (n12 - x3.toNat) (fun k => g12 (x3.toNat + k) 0) 0 ∧ x5 = lineAt x1 (n12 - x3.toNat) (fun k => g12 (x3.toNat + k) 0) 1 ∧ x6 = lineAt x1 (n12 - x3.toNat) (fun k => g12 (x3.toNat + k) 0) 2 ∧ x7 = lineAt x1 (n12 - x3.toNat) (fun k => g12 (x3.toNat + k) 0) 3 ∧ x8 = lineAt x1 (n12 - x3.toNat) (fun k => g12 (x3.toNat + k) 0) 4 ∧ x9 = lineAt x1 (n12 - x3.toNat) (fun k => g12 (x3.toNat + k) 0) 5 ∧ x10 = lineAt x1 (n12 - x3.toNat) (fun k => g12 (x3.toNat + k) 0) 6 ∧ x11 = lineAt x1 (n12 - x3.toNat) (fun k => g12 (x3.toNat + k) 0) 7) ∧ ∀ k, k < n12 → 0 ≤ g12 k 0 ∧ g12 k 0 < 49

noncomputable def O_IpcOrder_22 (x0 : Bool) (x1 x2 x3 x4 x5 x6 x7 x8 x9 x10 x11 : Int) (n12 : Nat) (g12 : Nat → Nat → Int) : Tr (Ex × List At) :=
  .br 0 (pdec (pre22 x1 x2 x3 x4 x5 x6 x7 x8 x9 x10 x11 n12 g12)) (.ok (.exit 2, [.b x0, .i x2, .i 0, .i 0, .i 0, .i 0, .i 0, .i 0, .i 0, .i 0])) .no
noncomputable def OL_IpcOrder_22 (l : List At) : Tr (Ex × List At) := O_IpcOrder_22 (aB l 0) (aI l 1) (aI l 2) (aI l 3) (aI l 4) (aI l 5) (aI l 6) (aI l 7) (aI l 8) (aI l 9) (aI l 10) (aI l 11) (aRn l 12) (aRg l 12)
def μ_IpcOrder_22 (l : List At) : Nat := ((aRn l 12 : Int) - aI l 3).toNat

theorem rd_IpcOrder_22 : ∀ l r, (OL_IpcOrder_22 l).val = some r → RoundS BL_IpcOrder_22 OL_IpcOrder_22 μ_IpcOrder_22 l r := by
  intro l r h
  obtain ⟨hc, h⟩ := guard_val h
  have hp := of_pdec hc
  have hr := val_ok h
  obtain ⟨hm, ho, c0, c1, h7, ⟨e0, e1, e2, e3, e4, e5, e6, e7⟩, hg⟩ := hp
  have hG : ∀ k, k < aRn l 12 - (aI l 3).toNat → 0 ≤ (fun k => aRg l 12 ((aI l 3).toNat + k) 0) k ∧ (fun k => aRg l 12 ((aI l 3).toNat + k) 0) k < 49 := fun k hk => hg _ (by omega)
  have hc7 : aRn l 12 - (aI l 3).toNat ≤ 7 := by omega
  unfold RoundS BL_IpcOrder_22 B_IpcOrder_22
  refine brD (fun h1 => ?_) (fun h1 => ?_)
  · have hw : IntKind.i64.wrap (aI l 3 + 1) = aI l 3 + 1 := wrap_i64 (by omega) (by omega)
    have hR : Rng (aI l 4) (aI l 5) (aI l 6) (aI l 7) (aI l 8) (aI l 9) (aI l 10) (aI l 11) := by
      rw [e0, e1, e2, e3, e4, e5, e6, e7]
      exact at_rng hm hc7 hG
    have hs : meetB (aI l 4) (aI l 5) (aI l 6) (aI l 7) (aI l 8) (aI l 9) (aI l 10) (aI l 11) (aI l 1) = false := by
      rw [e0, e1, e2, e3, e4, e5, e6, e7]
      exact at_same hm hc7
    have hn0 : aRn l 12 - (aI l 3).toNat ≠ 0 := by omega
    have hy : meetB (aI l 4) (aI l 5) (aI l 6) (aI l 7) (aI l 8) (aI l 9) (aI l 10) (aI l 11) (aI l 2) = true := by
      rw [e0, e1, e2, e3, e4, e5, e6, e7, at_meet hm hc7 hG ho]
      exact decide_eq_true hn0
    have hI : meetI (aI l 4) (aI l 5) (aI l 6) (aI l 7) (aI l 8) (aI l 9) (aI l 10) (aI l 11) (aI l 2) = aRg l 12 (aI l 3).toNat 0 := by
      rw [e0, e1, e2, e3, e4, e5, e6, e7, at_meetI hm hc7 hG ho hn0]
      rfl
    have hW : ∀ j, meetW (aI l 4) (aI l 5) (aI l 6) (aI l 7) (aI l 8) (aI l 9) (aI l 10) (aI l 11) (aI l 2) j = lineAt (aI l 1) (aRn l 12 - (aI l 3 + 1).toNat) (fun k => aRg l 12 ((aI l 3 + 1).toNat + k) 0) j := by
      intro j
      rw [e0, e1, e2, e3, e4, e5, e6, e7, at_meetW hm hc7 hG ho hn0 j (G' := fun k => aRg l 12 ((aI l 3 + 1).toNat + k) 0) (fun k _ => by
        show aRg l 12 ((aI l 3 + 1).toNat + k) 0 = aRg l 12 ((aI l 3).toNat + (k + 1)) 0
        rw [show (aI l 3 + 1).toNat + k = (aI l 3).toNat + (k + 1) by omega])]
      rw [show aRn l 12 - (aI l 3).toNat - 1 = aRn l 12 - (aI l 3 + 1).toNat by omega]
    rw [hs, hy, hI, hw, hW 0, hW 1, hW 2, hW 3, hW 4, hW 5, hW 6, hW 7]
    refine brT (decide_eq_true hR) (brT (decide_eq_true hR) (brF rfl (brF rfl (brW (fun _ => brNE (fun hh => (hh rfl).elim) (fun _ => ?_)) (fun hh => by exfalso; omega)))))
    refine on_ _ r (AtsEq.refl _) ?_ ?_ rfl (AtsEq.refl _)
    · show ((aRn l 12 : Int) - (aI l 3 + 1)).toNat < ((aRn l 12 : Int) - aI l 3).toNat
      omega
    · exact (br_t (g := 0) (pdec_yes ⟨hm, ho, by show 0 ≤ aI l 3 + 1; omega, by show aI l 3 + 1 ≤ aRn l 12; omega, h7, ⟨rfl, rfl, rfl, rfl, rfl, rfl, rfl, rfl⟩, hg⟩)).trans h
  · have ez : aRn l 12 - (aI l 3).toNat = 0 := by omega
    have z : ∀ j, lineAt (aI l 1) (aRn l 12 - (aI l 3).toNat) (fun k => aRg l 12 ((aI l 3).toNat + k) 0) j = 0 := fun j => if_pos ez
    subst hr
    refine out_ (by simp) rfl ?_
    rw [show aI l 4 = 0 from e0.trans (z 0), show aI l 5 = 0 from e1.trans (z 1), show aI l 6 = 0 from e2.trans (z 2), show aI l 7 = 0 from e3.trans (z 3), show aI l 8 = 0 from e4.trans (z 4), show aI l 9 = 0 from e5.trans (z 5), show aI l 10 = 0 from e6.trans (z 6), show aI l 11 = 0 from e7.trans (z 7)]
    exact AtsEq.refl _
end Go.Proofs.Ytepdekambalmhaa.G

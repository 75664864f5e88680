/-
  The plain law of IpcLines.
-/
import Derived.Test.YtepdekambalmhaaG9
import Derived.Test.YtepdekambalmhaaV8
namespace Go.Proofs.Ytepdekambalmhaa.G
open Go Go.AM Go.Proofs

theorem same_yes {n m : Nat} {g g' : Nat → Nat → Int} (hn : n ≤ 9223372036854775807) (e : n = m) (h : ∀ k, k < n → g k 0 = g' k 0) : ok_same n g m g' = true ∧ r_same_0 n g m g' = true := by
  subst e
  have c1 : ((n : Int) != (n : Int)) = false := by simp
  have c2 : decide ((0 : Int) ≤ (0 : Int) ∧ n = n ∧ (0 : Int) ≤ (↑n : Int) ∧ n ≤ (9223372036854775807 : Nat)) = true := decide_eq_true (by omega)
  refine ⟨by unfold ok_same; rw [c1, c2]; simp, ?_⟩
  unfold r_same_0
  rw [c1, c2, cond_false, cond_true, show Int.toNat ((n : Int) - 0) = n by omega]
  obtain ⟨h1, h2, h3, h4⟩ := findI_spec (sameP 0 0 g g') n 0
  generalize findI (sameP 0 0 g g') n 0 = q at *
  have : ¬ q < n := fun hl => by
    have := h3 (by omega)
    unfold sameP at this
    rw [Nat.zero_add, h q hl] at this
    simp at this
  rw [decide_eq_false this]; rfl

theorem vc_IpcLines (x0 x1 x2 x3 x4 x5 x6 x7 x8 : Int) (n9 : Nat) (g9 : Nat → Nat → Int) (_h0 : IntKind.min .i64 ≤ x0) (_k0 : x0 ≤ IntKind.max .i64) (_h1 : IntKind.min .u64 ≤ x1) (_k1 : x1 ≤ IntKind.max .u64) (_h2 : IntKind.min .u64 ≤ x2) (_k2 : x2 ≤ IntKind.max .u64) (_h3 : IntKind.min .u64 ≤ x3) (_k3 : x3 ≤ IntKind.max .u64) (_h4 : IntKind.min .u64 ≤ x4) (_k4 : x4 ≤ IntKind.max .u64) (_h5 : IntKind.min .u64 ≤ x5) (_k5 : x5 ≤ IntKind.max .u64) (_h6 : IntKind.min .u64 ≤ x6) (_k6 : x6 ≤ IntKind.max .u64) (_h7 : IntKind.min .u64 ≤ x7) (_k7 : x7 ≤ IntKind.max .u64) (_h8 : IntKind.min .u64 ≤ x8) (_k8 : x8 ≤ IntKind.max .u64) (b9 : n9 ≤ maxLen) (_w9 : ∀ (i c : Nat) (k : SK), i < n9 → [SK.n .i64][c]? = some k → wfS k (g9 i c)) :
    (T_IpcLines x0 x1 x2 x3 x4 x5 x6 x7 x8 n9 g9).sat fun r => r = [.b true] := by
  have hr : Rng x1 x2 x3 x4 x5 x6 x7 x8 := rng_of _h1 _k1 _h2 _k2 _h3 _k3 _h4 _k4 _h5 _k5 _h6 _k6 _h7 _k7 _h8 _k8
  have hb : n9 ≤ 9223372036854775807 := b9
  obtain ⟨s1, s2⟩ := same_yes (n := bif gate x1 x2 x3 x4 x5 x6 x7 x8 then cnt x1 else 0) (g := fun (j cc : Nat) => gRows x2 x3 x4 x5 x6 x7 x8 ((0 : Nat) + j) cc) (by have := cnt_le x1; cases gate x1 x2 x3 x4 x5 x6 x7 x8 <;> simp <;> omega) rfl (fun _ _ => rfl)
  unfold T_IpcLines
  simp only [beq_self_eq_true, Bool.and_self]
  refine brT rfl (brD (fun h => brT (by simp; omega) (brT (decide_eq_true (by decide)) (brT (decide_eq_true (by decide)) ?_))) (fun h => brT (decide_eq_true hb) (brT (decide_eq_true hb) ?_)))
  · exact brT (decide_eq_true hr) (brT (decide_eq_true hr) (brT s1 (brT rfl (brT rfl (brT rfl (brT s2 (Tr.sat_ok.2 rfl)))))))
  · exact brT (decide_eq_true hr) (brT (decide_eq_true hr) (brT s1 (brT rfl (brT rfl (brT rfl (brT s2 (Tr.sat_ok.2 rfl)))))))
end Go.Proofs.Ytepdekambalmhaa.G

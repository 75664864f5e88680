/-
  A gate's line, made of those who wait: what Wait and Meet come to at one.
-/
import Derived.Test.YtepdekambalmhaaS5
namespace Go.Proofs.Ytepdekambalmhaa.G
open Go Go.AM Go.Proofs

/-- The line's word 'j' where the first 'c' of 'G' wait in the mode 'm'. -/
def lineAt (m : Int) (c : Nat) (G : Nat → Int) (j : Nat) : Int := if c = 0 then 0 else lineC m c G j

theorem lineAt_0 {m : Int} {c : Nat} {G : Nat → Int} (hc : c ≠ 0) : lineAt m c G 0 = m + 16 * c := by unfold lineAt lineC; rw [if_neg hc, if_pos rfl]
theorem lineAt_s {m : Int} {c : Nat} {G : Nat → Int} (k : Nat) : lineAt m c G (k + 1) = if k < c then G k else 0 := by
  unfold lineAt lineC
  by_cases hc : c = 0
  · subst hc; simp
  · rw [if_neg hc, if_neg (Nat.succ_ne_zero k)]
    by_cases h : k < c
    · rw [if_pos h, if_pos (by omega)]; rfl
    · rw [if_neg h, if_neg (by omega)]

section
variable {m : Int} {c : Nat} {G : Nat → Int} (hm : m = 3 ∨ m = 4) (hc : c ≤ 7) (hG : ∀ k, k < c → 0 ≤ G k ∧ G k < 49)
include hm hc hG

theorem at_rng : Rng (lineAt m c G 0) (lineAt m c G 1) (lineAt m c G 2) (lineAt m c G 3) (lineAt m c G 4) (lineAt m c G 5) (lineAt m c G 6) (lineAt m c G 7) := by
  have h0 : 0 ≤ lineAt m c G 0 ∧ lineAt m c G 0 < 18446744073709551616 := by
    by_cases h : c = 0
    · subst h; unfold lineAt; simp
    · rw [lineAt_0 h]; omega
  have hs : ∀ k, 0 ≤ lineAt m c G (k + 1) ∧ lineAt m c G (k + 1) < 18446744073709551616 := by
    intro k
    rw [lineAt_s]
    by_cases h : k < c
    · rw [if_pos h]; have := hG k h; omega
    · rw [if_neg h]; omega
  unfold Rng
  exact ⟨h0.1, h0.2, (hs 0).1, (hs 0).2, (hs 1).1, (hs 1).2, (hs 2).1, (hs 2).2, (hs 3).1, (hs 3).2, (hs 4).1, (hs 4).2, (hs 5).1, (hs 5).2, (hs 6).1, (hs 6).2⟩

omit hG in
theorem at_cnt : cnt (lineAt m c G 0) = c ∧ lineAt m c G 0 % 16 = if c = 0 then 0 else m := by
  by_cases h : c = 0
  · subst h; unfold lineAt; rw [if_pos rfl, if_pos rfl]; exact ⟨rfl, rfl⟩
  · rw [lineAt_0 h, if_neg h]
    unfold cnt
    omega

omit hm hG in
theorem at_wds (k : Nat) (hk : k < c) : wds (lineAt m c G 1) (lineAt m c G 2) (lineAt m c G 3) (lineAt m c G 4) (lineAt m c G 5) (lineAt m c G 6) (lineAt m c G 7) k = G k := by
  have e : wds (lineAt m c G 1) (lineAt m c G 2) (lineAt m c G 3) (lineAt m c G 4) (lineAt m c G 5) (lineAt m c G 6) (lineAt m c G 7) k = lineAt m c G (k + 1) := by
    obtain h | h | h | h | h | h | h : k = 0 ∨ k = 1 ∨ k = 2 ∨ k = 3 ∨ k = 4 ∨ k = 5 ∨ k = 6 := by omega
    all_goals (subst h; rfl)
  rw [e, lineAt_s, if_pos hk]

theorem at_gate : gate (lineAt m c G 0) (lineAt m c G 1) (lineAt m c G 2) (lineAt m c G 3) (lineAt m c G 4) (lineAt m c G 5) (lineAt m c G 6) (lineAt m c G 7) = true := by
  obtain ⟨e1, e2⟩ := at_cnt hm hc (G := G)
  have hw := at_wds hc (m := m) (G := G)
  by_cases h : c = 0
  · subst h
    unfold lineAt
    simp only [if_true]
    decide
  · rw [if_neg h] at e2
    unfold gate
    rw [e1, e2]
    have hl : lineOk m c (wds (lineAt m c G 1) (lineAt m c G 2) (lineAt m c G 3) (lineAt m c G 4) (lineAt m c G 5) (lineAt m c G 6) (lineAt m c G 7)) = true := by
      unfold lineOk
      rw [Bool.and_eq_true]
      refine ⟨decide_eq_true (by omega), decide_eq_true fun k hk => ?_⟩
      rw [hw k hk]
      exact decide_eq_true (hG k hk)
    have hj : ∀ j, lineC m c (wds (lineAt m c G 1) (lineAt m c G 2) (lineAt m c G 3) (lineAt m c G 4) (lineAt m c G 5) (lineAt m c G 6) (lineAt m c G 7)) j = lineAt m c G j := by
      intro j
      rw [show lineAt m c G j = lineC m c G j from if_neg h]
      unfold lineC
      by_cases h0 : j = 0
      · rw [if_pos h0, if_pos h0]
      · rw [if_neg h0, if_neg h0]
        by_cases h1 : j ≤ c
        · rw [if_pos h1, if_pos h1, hw _ (by omega)]
        · rw [if_neg h1, if_neg h1]
    rw [hl]
    simp only [hj, beq_self_eq_true, Bool.and_self]

/-- One more may wait, if there is room. -/
theorem at_wait {x : Int} (hx : 0 ≤ x ∧ x < 49) : waitC (lineAt m c G 0) (lineAt m c G 1) (lineAt m c G 2) (lineAt m c G 3) (lineAt m c G 4) (lineAt m c G 5) (lineAt m c G 6) (lineAt m c G 7) m x = if c = 7 then 43 else 0 := by
  obtain ⟨e1, e2⟩ := at_cnt hm hc (G := G)
  unfold waitC
  rw [if_neg (by omega), at_gate hm hc hG, e1, e2]
  have : ¬ ((if c = 0 then 0 else m) ≠ 0 ∧ (if c = 0 then 0 else m) ≠ m) := by split <;> omega
  rw [if_neg this]
  rfl

theorem at_waitW {x : Int} (hx : 0 ≤ x ∧ x < 49) (h7 : c ≠ 7) (j : Nat) {G' : Nat → Int} (hG1 : ∀ k, k < c → G' k = G k) (hG2 : G' c = x) : waitW (lineAt m c G 0) (lineAt m c G 1) (lineAt m c G 2) (lineAt m c G 3) (lineAt m c G 4) (lineAt m c G 5) (lineAt m c G 6) (lineAt m c G 7) m x j = lineAt m (c + 1) G' j := by
  obtain ⟨e1, e2⟩ := at_cnt hm hc (G := G)
  unfold waitW
  rw [at_wait hm hc hG hx, if_neg h7, if_pos rfl, e1, show lineAt m (c + 1) G' j = lineC m (c + 1) G' j from if_neg (Nat.succ_ne_zero c)]
  unfold lineC
  by_cases h0 : j = 0
  · rw [if_pos h0, if_pos h0]
  · rw [if_neg h0, if_neg h0]
    by_cases h1 : j ≤ c + 1
    · rw [if_pos h1, if_pos h1]
      unfold addG
      rw [e1]
      by_cases h2 : j - 1 < c
      · rw [if_pos h2, hG1 _ h2]
        exact at_wds hc (j - 1) h2
      · rw [if_neg h2, show j - 1 = c by omega, hG2]
    · rw [if_neg h1, if_neg h1]

omit hG in
/-- Nobody meets one of the same mode. -/
theorem at_same : meetB (lineAt m c G 0) (lineAt m c G 1) (lineAt m c G 2) (lineAt m c G 3) (lineAt m c G 4) (lineAt m c G 5) (lineAt m c G 6) (lineAt m c G 7) m = false := by
  obtain ⟨e1, e2⟩ := at_cnt hm hc (G := G)
  unfold meetB
  rw [e2, decide_eq_false, Bool.and_false]
  split <;> omega

theorem at_meet {o : Int} (ho : (o = 3 ∨ o = 4) ∧ o ≠ m) : meetB (lineAt m c G 0) (lineAt m c G 1) (lineAt m c G 2) (lineAt m c G 3) (lineAt m c G 4) (lineAt m c G 5) (lineAt m c G 6) (lineAt m c G 7) o = decide (c ≠ 0) := by
  obtain ⟨e1, e2⟩ := at_cnt hm hc (G := G)
  unfold meetB
  rw [at_gate hm hc hG, e2, Bool.true_and, decide_eq_decide]
  split <;> omega

theorem at_meetI {o : Int} (ho : (o = 3 ∨ o = 4) ∧ o ≠ m) (h0 : c ≠ 0) : meetI (lineAt m c G 0) (lineAt m c G 1) (lineAt m c G 2) (lineAt m c G 3) (lineAt m c G 4) (lineAt m c G 5) (lineAt m c G 6) (lineAt m c G 7) o = G 0 := by
  unfold meetI
  rw [at_meet hm hc hG ho, decide_eq_true h0, cond_true]
  have := lineAt_s (m := m) (c := c) (G := G) 0
  rw [if_pos (by omega)] at this
  exact this

theorem at_meetW {o : Int} (ho : (o = 3 ∨ o = 4) ∧ o ≠ m) (h0 : c ≠ 0) (j : Nat) {G' : Nat → Int} (hG1 : ∀ k, k + 1 < c → G' k = G (k + 1)) : meetW (lineAt m c G 0) (lineAt m c G 1) (lineAt m c G 2) (lineAt m c G 3) (lineAt m c G 4) (lineAt m c G 5) (lineAt m c G 6) (lineAt m c G 7) o j = lineAt m (c - 1) G' j := by
  obtain ⟨e1, e2⟩ := at_cnt hm hc (G := G)
  rw [if_neg h0] at e2
  unfold meetW
  rw [at_meet hm hc hG ho, decide_eq_true h0, cond_true, e1, e2]
  by_cases h1 : c = 1
  · rw [if_pos h1, show lineAt m (c - 1) G' j = 0 from if_pos (by omega)]
  · rw [if_neg h1, show lineAt m (c - 1) G' j = lineC m (c - 1) G' j from if_neg (by omega)]
    unfold lineC
    by_cases h2 : j = 0
    · rw [if_pos h2, if_pos h2]
    · rw [if_neg h2, if_neg h2]
      by_cases h3 : j ≤ c - 1
      · rw [if_pos h3, if_pos h3, hG1 _ (by omega)]
        exact at_wds hc _ (by omega)
      · rw [if_neg h3, if_neg h3]
end

/-- A number, modulo 49, as one that may wait. -/
def idv (v : Int) : Int := if v.tmod 49 < 0 then IntKind.wrap IntKind.i64 (0 - v.tmod 49) else v.tmod 49
theorem idv_ok (v : Int) : 0 ≤ idv v ∧ idv v < 49 := by
  have h : -49 < v.tmod 49 ∧ v.tmod 49 < 49 := by
    rcases Int.le_total 0 v with h0 | h0
    · rw [Int.tmod_eq_emod_of_nonneg h0]; omega
    · have e : v.tmod 49 = -((-v).tmod 49) := by rw [Int.neg_tmod, Int.neg_neg]
      rw [e, Int.tmod_eq_emod_of_nonneg (by omega)]; omega
  unfold idv
  split
  · rw [wrap_i64 (by omega) (by omega)]; omega
  · omega
end Go.Proofs.Ytepdekambalmhaa.G

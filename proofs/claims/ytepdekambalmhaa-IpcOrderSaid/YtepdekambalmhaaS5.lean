/-
  What the functions that let somebody wait, and tell whom one meets, come to, in few words.
-/
import Derived.Test.YtepdekambalmhaaG5
import Derived.KernelRfl
namespace Go.Proofs.Ytepdekambalmhaa.G
open Go Go.AM Go.Proofs

/-- Those who wait, and one more. -/
def addG (x0 x1 x2 x3 x4 x5 x6 x7 x9 : Int) (k : Nat) : Int := if k < cnt x0 then wds x1 x2 x3 x4 x5 x6 x7 k else x9
def waitC (x0 x1 x2 x3 x4 x5 x6 x7 x8 x9 : Int) : Int :=
  if ¬ ((x8 = 3 ∨ x8 = 4) ∧ 0 ≤ x9 ∧ x9 < 49) then 1 else bif !gate x0 x1 x2 x3 x4 x5 x6 x7 then 41 else if x0 % 16 ≠ 0 ∧ x0 % 16 ≠ x8 then 1 else if cnt x0 = 7 then 43 else 0
def waitW (x0 x1 x2 x3 x4 x5 x6 x7 x8 x9 : Int) (j : Nat) : Int := if waitC x0 x1 x2 x3 x4 x5 x6 x7 x8 x9 = 0 then lineC x8 (cnt x0 + 1) (addG x0 x1 x2 x3 x4 x5 x6 x7 x9) j else 0
def F2_Wait (l : List At) : Tr (List At) := .br 0 (decide (Rng (aI l 0) (aI l 1) (aI l 2) (aI l 3) (aI l 4) (aI l 5) (aI l 6) (aI l 7))) (.ok [.i (waitW (aI l 0) (aI l 1) (aI l 2) (aI l 3) (aI l 4) (aI l 5) (aI l 6) (aI l 7) (aI l 8) (aI l 9) 0), .i (waitW (aI l 0) (aI l 1) (aI l 2) (aI l 3) (aI l 4) (aI l 5) (aI l 6) (aI l 7) (aI l 8) (aI l 9) 1), .i (waitW (aI l 0) (aI l 1) (aI l 2) (aI l 3) (aI l 4) (aI l 5) (aI l 6) (aI l 7) (aI l 8) (aI l 9) 2), .i (waitW (aI l 0) (aI l 1) (aI l 2) (aI l 3) (aI l 4) (aI l 5) (aI l 6) (aI l 7) (aI l 8) (aI l 9) 3), .i (waitW (aI l 0) (aI l 1) (aI l 2) (aI l 3) (aI l 4) (aI l 5) (aI l 6) (aI l 7) (aI l 8) (aI l 9) 4), .i (waitW (aI l 0) (aI l 1) (aI l 2) (aI l 3) (aI l 4) (aI l 5) (aI l 6) (aI l 7) (aI l 8) (aI l 9) 5), .i (waitW (aI l 0) (aI l 1) (aI l 2) (aI l 3) (aI l 4) (aI l 5) (aI l 6) (aI l 7) (aI l 8) (aI l 9) 6), .i (waitW (aI l 0) (aI l 1) (aI l 2) (aI l 3) (aI l 4) (aI l 5) (aI l 6) (aI l 7) (aI l 8) (aI l 9) 7), .i (waitC (aI l 0) (aI l 1) (aI l 2) (aI l 3) (aI l 4) (aI l 5) (aI l 6) (aI l 7) (aI l 8) (aI l 9))]) .no

def meetB (x0 x1 x2 x3 x4 x5 x6 x7 x8 : Int) : Bool := gate x0 x1 x2 x3 x4 x5 x6 x7 && decide ((x8 = 3 ∨ x8 = 4) ∧ (x0 % 16 = 3 ∨ x0 % 16 = 4) ∧ x0 % 16 ≠ x8)
def meetI (x0 x1 x2 x3 x4 x5 x6 x7 x8 : Int) : Int := bif meetB x0 x1 x2 x3 x4 x5 x6 x7 x8 then x1 else 0
def meetW (x0 x1 x2 x3 x4 x5 x6 x7 x8 : Int) (j : Nat) : Int := bif meetB x0 x1 x2 x3 x4 x5 x6 x7 x8 then (if cnt x0 = 1 then 0 else lineC (x0 % 16) (cnt x0 - 1) (fun k => wds x1 x2 x3 x4 x5 x6 x7 (k + 1)) j) else 0
def F2_Meet (l : List At) : Tr (List At) := .br 0 (decide (Rng (aI l 0) (aI l 1) (aI l 2) (aI l 3) (aI l 4) (aI l 5) (aI l 6) (aI l 7))) (.ok [.i (meetI (aI l 0) (aI l 1) (aI l 2) (aI l 3) (aI l 4) (aI l 5) (aI l 6) (aI l 7) (aI l 8)), .i (meetW (aI l 0) (aI l 1) (aI l 2) (aI l 3) (aI l 4) (aI l 5) (aI l 6) (aI l 7) (aI l 8) 0), .i (meetW (aI l 0) (aI l 1) (aI l 2) (aI l 3) (aI l 4) (aI l 5) (aI l 6) (aI l 7) (aI l 8) 1), .i (meetW (aI l 0) (aI l 1) (aI l 2) (aI l 3) (aI l 4) (aI l 5) (aI l 6) (aI l 7) (aI l 8) 2), .i (meetW (aI l 0) (aI l 1) (aI l 2) (aI l 3) (aI l 4) (aI l 5) (aI l 6) (aI l 7) (aI l 8) 3), .i (meetW (aI l 0) (aI l 1) (aI l 2) (aI l 3) (aI l 4) (aI l 5) (aI l 6) (aI l 7) (aI l 8) 4), .i (meetW (aI l 0) (aI l 1) (aI l 2) (aI l 3) (aI l 4) (aI l 5) (aI l 6) (aI l 7) (aI l 8) 5), .i (meetW (aI l 0) (aI l 1) (aI l 2) (aI l 3) (aI l 4) (aI l 5) (aI l 6) (aI l 7) (aI l 8) 6), .i (meetW (aI l 0) (aI l 1) (aI l 2) (aI l 3) (aI l 4) (aI l 5) (aI l 6) (aI l 7) (aI l 8) 7), .b (meetB (aI l 0) (aI l 1) (aI l 2) (aI l 3) (aI l 4) (aI l 5) (aI l 6) (aI l 7) (aI l 8))]) .no

theorem isId_eq (x : Int) : r_isId_0 x = decide (0 ≤ x ∧ x < 49) := by
  have := notId_eq x
  unfold r_notId_0 at this
  exact Bool.not_inj this
theorem waits_eq' (x : Int) : r_waits_0 x = decide (x = 3 ∨ x = 4) := waits_eq x

section
variable {x0 x1 x2 x3 x4 x5 x6 x7 x8 x9 : Int}
theorem waitR_no {c : Int} (hc : waitC x0 x1 x2 x3 x4 x5 x6 x7 x8 x9 = c) (h : c ≠ 0) : ([.i 0, .i 0, .i 0, .i 0, .i 0, .i 0, .i 0, .i 0, .i c] : List At) = [.i (waitW x0 x1 x2 x3 x4 x5 x6 x7 x8 x9 0), .i (waitW x0 x1 x2 x3 x4 x5 x6 x7 x8 x9 1), .i (waitW x0 x1 x2 x3 x4 x5 x6 x7 x8 x9 2), .i (waitW x0 x1 x2 x3 x4 x5 x6 x7 x8 x9 3), .i (waitW x0 x1 x2 x3 x4 x5 x6 x7 x8 x9 4), .i (waitW x0 x1 x2 x3 x4 x5 x6 x7 x8 x9 5), .i (waitW x0 x1 x2 x3 x4 x5 x6 x7 x8 x9 6), .i (waitW x0 x1 x2 x3 x4 x5 x6 x7 x8 x9 7), .i (waitC x0 x1 x2 x3 x4 x5 x6 x7 x8 x9)] := by
  subst hc
  unfold waitW
  simp only [if_neg h]
theorem waitR_ok (h : waitC x0 x1 x2 x3 x4 x5 x6 x7 x8 x9 = 0) : ([.i (lineC x8 (cnt x0 + 1) (addG x0 x1 x2 x3 x4 x5 x6 x7 x9) 0), .i (lineC x8 (cnt x0 + 1) (addG x0 x1 x2 x3 x4 x5 x6 x7 x9) 1), .i (lineC x8 (cnt x0 + 1) (addG x0 x1 x2 x3 x4 x5 x6 x7 x9) 2), .i (lineC x8 (cnt x0 + 1) (addG x0 x1 x2 x3 x4 x5 x6 x7 x9) 3), .i (lineC x8 (cnt x0 + 1) (addG x0 x1 x2 x3 x4 x5 x6 x7 x9) 4), .i (lineC x8 (cnt x0 + 1) (addG x0 x1 x2 x3 x4 x5 x6 x7 x9) 5), .i (lineC x8 (cnt x0 + 1) (addG x0 x1 x2 x3 x4 x5 x6 x7 x9) 6), .i (lineC x8 (cnt x0 + 1) (addG x0 x1 x2 x3 x4 x5 x6 x7 x9) 7), .i 0] : List At) = [.i (waitW x0 x1 x2 x3 x4 x5 x6 x7 x8 x9 0), .i (waitW x0 x1 x2 x3 x4 x5 x6 x7 x8 x9 1), .i (waitW x0 x1 x2 x3 x4 x5 x6 x7 x8 x9 2), .i (waitW x0 x1 x2 x3 x4 x5 x6 x7 x8 x9 3), .i (waitW x0 x1 x2 x3 x4 x5 x6 x7 x8 x9 4), .i (waitW x0 x1 x2 x3 x4 x5 x6 x7 x8 x9 5), .i (waitW x0 x1 x2 x3 x4 x5 x6 x7 x8 x9 6), .i (waitW x0 x1 x2 x3 x4 x5 x6 x7 x8 x9 7), .i (waitC x0 x1 x2 x3 x4 x5 x6 x7 x8 x9)] := by
  unfold waitW
  simp only [h, if_true]
theorem no1 (h : ¬ ((x8 = 3 ∨ x8 = 4) ∧ 0 ≤ x9 ∧ x9 < 49)) : ([.i 0, .i 0, .i 0, .i 0, .i 0, .i 0, .i 0, .i 0, .i 1] : List At) = [.i (waitW x0 x1 x2 x3 x4 x5 x6 x7 x8 x9 0), .i (waitW x0 x1 x2 x3 x4 x5 x6 x7 x8 x9 1), .i (waitW x0 x1 x2 x3 x4 x5 x6 x7 x8 x9 2), .i (waitW x0 x1 x2 x3 x4 x5 x6 x7 x8 x9 3), .i (waitW x0 x1 x2 x3 x4 x5 x6 x7 x8 x9 4), .i (waitW x0 x1 x2 x3 x4 x5 x6 x7 x8 x9 5), .i (waitW x0 x1 x2 x3 x4 x5 x6 x7 x8 x9 6), .i (waitW x0 x1 x2 x3 x4 x5 x6 x7 x8 x9 7), .i (waitC x0 x1 x2 x3 x4 x5 x6 x7 x8 x9)] := waitR_no (by unfold waitC; rw [if_pos h]) (by decide)
theorem no41 (h : (x8 = 3 ∨ x8 = 4) ∧ 0 ≤ x9 ∧ x9 < 49) (hg : gate x0 x1 x2 x3 x4 x5 x6 x7 = false) : ([.i 0, .i 0, .i 0, .i 0, .i 0, .i 0, .i 0, .i 0, .i 41] : List At) = [.i (waitW x0 x1 x2 x3 x4 x5 x6 x7 x8 x9 0), .i (waitW x0 x1 x2 x3 x4 x5 x6 x7 x8 x9 1), .i (waitW x0 x1 x2 x3 x4 x5 x6 x7 x8 x9 2), .i (waitW x0 x1 x2 x3 x4 x5 x6 x7 x8 x9 3), .i (waitW x0 x1 x2 x3 x4 x5 x6 x7 x8 x9 4), .i (waitW x0 x1 x2 x3 x4 x5 x6 x7 x8 x9 5), .i (waitW x0 x1 x2 x3 x4 x5 x6 x7 x8 x9 6), .i (waitW x0 x1 x2 x3 x4 x5 x6 x7 x8 x9 7), .i (waitC x0 x1 x2 x3 x4 x5 x6 x7 x8 x9)] := waitR_no (by unfold waitC; rw [if_neg (Classical.not_not.2 h), hg]; rfl) (by decide)
theorem no2 (h : (x8 = 3 ∨ x8 = 4) ∧ 0 ≤ x9 ∧ x9 < 49) (hg : gate x0 x1 x2 x3 x4 x5 x6 x7 = true) (h2 : x0 % 16 ≠ 0 ∧ x0 % 16 ≠ x8) : ([.i 0, .i 0, .i 0, .i 0, .i 0, .i 0, .i 0, .i 0, .i 1] : List At) = [.i (waitW x0 x1 x2 x3 x4 x5 x6 x7 x8 x9 0), .i (waitW x0 x1 x2 x3 x4 x5 x6 x7 x8 x9 1), .i (waitW x0 x1 x2 x3 x4 x5 x6 x7 x8 x9 2), .i (waitW x0 x1 x2 x3 x4 x5 x6 x7 x8 x9 3), .i (waitW x0 x1 x2 x3 x4 x5 x6 x7 x8 x9 4), .i (waitW x0 x1 x2 x3 x4 x5 x6 x7 x8 x9 5), .i (waitW x0 x1 x2 x3 x4 x5 x6 x7 x8 x9 6), .i (waitW x0 x1 x2 x3 x4 x5 x6 x7 x8 x9 7), .i (waitC x0 x1 x2 x3 x4 x5 x6 x7 x8 x9)] := waitR_no (by unfold waitC; rw [if_neg (Classical.not_not.2 h), hg, if_pos h2]; rfl) (by decide)
theorem no43 (h : (x8 = 3 ∨ x8 = 4) ∧ 0 ≤ x9 ∧ x9 < 49) (hg : gate x0 x1 x2 x3 x4 x5 x6 x7 = true) (h2 : ¬ (x0 % 16 ≠ 0 ∧ x0 % 16 ≠ x8)) (h3 : cnt x0 = 7) : ([.i 0, .i 0, .i 0, .i 0, .i 0, .i 0, .i 0, .i 0, .i 43] : List At) = [.i (waitW x0 x1 x2 x3 x4 x5 x6 x7 x8 x9 0), .i (waitW x0 x1 x2 x3 x4 x5 x6 x7 x8 x9 1), .i (waitW x0 x1 x2 x3 x4 x5 x6 x7 x8 x9 2), .i (waitW x0 x1 x2 x3 x4 x5 x6 x7 x8 x9 3), .i (waitW x0 x1 x2 x3 x4 x5 x6 x7 x8 x9 4), .i (waitW x0 x1 x2 x3 x4 x5 x6 x7 x8 x9 5), .i (waitW x0 x1 x2 x3 x4 x5 x6 x7 x8 x9 6), .i (waitW x0 x1 x2 x3 x4 x5 x6 x7 x8 x9 7), .i (waitC x0 x1 x2 x3 x4 x5 x6 x7 x8 x9)] := waitR_no (by unfold waitC; rw [if_neg (Classical.not_not.2 h), hg, if_neg h2, if_pos h3]; rfl) (by decide)
theorem yes0 (h : (x8 = 3 ∨ x8 = 4) ∧ 0 ≤ x9 ∧ x9 < 49) (hg : gate x0 x1 x2 x3 x4 x5 x6 x7 = true) (h2 : ¬ (x0 % 16 ≠ 0 ∧ x0 % 16 ≠ x8)) (h3 : ¬ cnt x0 = 7) : waitC x0 x1 x2 x3 x4 x5 x6 x7 x8 x9 = 0 := by unfold waitC; rw [if_neg (Classical.not_not.2 h), hg, if_neg h2, if_neg h3]; rfl

theorem cnt_le (x0 : Int) : cnt x0 ≤ 7 := by unfold cnt; omega

/-- One more waits. -/
theorem add_ok {G : Nat → Int} (h : (x8 = 3 ∨ x8 = 4) ∧ 0 ≤ x9 ∧ x9 < 49) (hg : gate x0 x1 x2 x3 x4 x5 x6 x7 = true) (h3 : ¬ cnt x0 = 7) (hG : ∀ k, G k = addG x0 x1 x2 x3 x4 x5 x6 x7 x9 k) :
    lineOk x8 (cnt x0 + 1) G = true := by
  have hc := cnt_le x0
  unfold lineOk
  rw [Bool.and_eq_true]
  refine ⟨decide_eq_true (by omega), decide_eq_true fun k hk => ?_⟩
  rw [hG]
  unfold addG
  by_cases h1 : k < cnt x0
  · rw [if_pos h1]
    exact decide_eq_true (gate_id hg k h1)
  · rw [if_neg h1]
    exact decide_eq_true h.2
theorem waitL {G : Nat → Int} (h : (x8 = 3 ∨ x8 = 4) ∧ 0 ≤ x9 ∧ x9 < 49) (hg : gate x0 x1 x2 x3 x4 x5 x6 x7 = true) (h2 : ¬ (x0 % 16 ≠ 0 ∧ x0 % 16 ≠ x8)) (h3 : ¬ cnt x0 = 7) (hG : ∀ k, G k = addG x0 x1 x2 x3 x4 x5 x6 x7 x9 k) :
    ([.i (lineW x8 (cnt x0 + 1) G 0), .i (lineW x8 (cnt x0 + 1) G 1), .i (lineW x8 (cnt x0 + 1) G 2), .i (lineW x8 (cnt x0 + 1) G 3), .i (lineW x8 (cnt x0 + 1) G 4), .i (lineW x8 (cnt x0 + 1) G 5), .i (lineW x8 (cnt x0 + 1) G 6), .i (lineW x8 (cnt x0 + 1) G 7), .i (lineE x8 (cnt x0 + 1) G)] : List At) = [.i (waitW x0 x1 x2 x3 x4 x5 x6 x7 x8 x9 0), .i (waitW x0 x1 x2 x3 x4 x5 x6 x7 x8 x9 1), .i (waitW x0 x1 x2 x3 x4 x5 x6 x7 x8 x9 2), .i (waitW x0 x1 x2 x3 x4 x5 x6 x7 x8 x9 3), .i (waitW x0 x1 x2 x3 x4 x5 x6 x7 x8 x9 4), .i (waitW x0 x1 x2 x3 x4 x5 x6 x7 x8 x9 5), .i (waitW x0 x1 x2 x3 x4 x5 x6 x7 x8 x9 6), .i (waitW x0 x1 x2 x3 x4 x5 x6 x7 x8 x9 7), .i (waitC x0 x1 x2 x3 x4 x5 x6 x7 x8 x9)] := by
  have e : G = addG x0 x1 x2 x3 x4 x5 x6 x7 x9 := funext hG
  subst e
  have := add_ok h hg h3 (fun _ => rfl)
  rw [← waitR_ok (yes0 h hg h2 h3)]
  unfold lineW lineE
  rw [this]; rfl

theorem appG_add (k : Nat) : appG (fun (k c : Nat) => gRows x1 x2 x3 x4 x5 x6 x7 (k) c) (cnt x0) (rowsF [[x9]]) (k) (0 : Nat) = addG x0 x1 x2 x3 x4 x5 x6 x7 x9 k := by
  unfold appG addG
  rfl
end

theorem appG_add2 {x0 x1 x2 x3 x4 x5 x6 x7 x9 : Int} (k : Nat) : appG (appG (fun (x x_1 : Nat) => (0 : Int)) 0 (fun (j c : Nat) => gRows x1 x2 x3 x4 x5 x6 x7 j c)) (cnt x0) (rowsF [[x9]]) k (0 : Nat) = addG x0 x1 x2 x3 x4 x5 x6 x7 x9 k := by
  unfold appG addG
  by_cases h : k < cnt x0
  · rw [if_pos h, if_pos h, if_neg (by omega), Nat.sub_zero]; rfl
  · rw [if_neg h, if_neg h]; rfl

theorem t_gWait (x0 x1 x2 x3 x4 x5 x6 x7 x8 x9 : Int) (hr : Rng x0 x1 x2 x3 x4 x5 x6 x7) : (T_gWait x0 x1 x2 x3 x4 x5 x6 x7 x8 x9).sat fun r => r = [.i (waitW x0 x1 x2 x3 x4 x5 x6 x7 x8 x9 0), .i (waitW x0 x1 x2 x3 x4 x5 x6 x7 x8 x9 1), .i (waitW x0 x1 x2 x3 x4 x5 x6 x7 x8 x9 2), .i (waitW x0 x1 x2 x3 x4 x5 x6 x7 x8 x9 3), .i (waitW x0 x1 x2 x3 x4 x5 x6 x7 x8 x9 4), .i (waitW x0 x1 x2 x3 x4 x5 x6 x7 x8 x9 5), .i (waitW x0 x1 x2 x3 x4 x5 x6 x7 x8 x9 6), .i (waitW x0 x1 x2 x3 x4 x5 x6 x7 x8 x9 7), .i (waitC x0 x1 x2 x3 x4 x5 x6 x7 x8 x9)] := by
  have hc := cnt_le x0
  unfold T_gWait
  rw [waits_eq', isId_eq]
  cases hg : gate x0 x1 x2 x3 x4 x5 x6 x7 with
  | false =>
    refine brND (fun hA => Tr.sat_ok.2 (no1 (by omega))) (fun hA => brND (fun hB => Tr.sat_ok.2 (no1 (by omega))) (fun hB => brT (decide_eq_true hr) (brT rfl (Tr.sat_ok.2 (no41 ⟨hA, hB⟩ hg)))))
  | true =>
    refine brND (fun hA => Tr.sat_ok.2 (no1 (by omega))) (fun hA => brND (fun hB => Tr.sat_ok.2 (no1 (by omega))) (fun hB => brT (decide_eq_true hr) (brF rfl ?_)))
    simp only [cond_true, cond_false, Bool.not_true, Bool.not_false, Int.toNat_natCast, Nat.sub_zero, Bool.true_and, Bool.true_or, Nat.zero_add]
    repeat' (first | refine brND (fun h => ?_) (fun h => ?_) | refine brNQ (fun h => ?_) (fun h => ?_) | refine brNE (fun h => ?_) (fun h => ?_) | refine brQ (fun h => ?_) (fun h => ?_) | refine brD (fun h => ?_) (fun h => ?_) | refine brW (fun h => ?_) (fun h => ?_) | refine brT (by simp <;> omega) ?_)
    all_goals first
      | exact Tr.sat_ok.2 (no2 ⟨hA, hB⟩ hg (by omega))
      | exact Tr.sat_ok.2 (no43 ⟨hA, hB⟩ hg (by omega) (by omega))
      | exact Tr.sat_ok.2 (waitL ⟨hA, hB⟩ hg (by omega) (by omega) (fun k => appG_add k))
      | (exfalso; omega)

theorem t_rWait (x0 x1 x2 x3 x4 x5 x6 x7 x8 x9 : Int) (hr : Rng x0 x1 x2 x3 x4 x5 x6 x7) : (T_rWait x0 x1 x2 x3 x4 x5 x6 x7 x8 x9).sat fun r => r = [.i (waitW x0 x1 x2 x3 x4 x5 x6 x7 x8 x9 0), .i (waitW x0 x1 x2 x3 x4 x5 x6 x7 x8 x9 1), .i (waitW x0 x1 x2 x3 x4 x5 x6 x7 x8 x9 2), .i (waitW x0 x1 x2 x3 x4 x5 x6 x7 x8 x9 3), .i (waitW x0 x1 x2 x3 x4 x5 x6 x7 x8 x9 4), .i (waitW x0 x1 x2 x3 x4 x5 x6 x7 x8 x9 5), .i (waitW x0 x1 x2 x3 x4 x5 x6 x7 x8 x9 6), .i (waitW x0 x1 x2 x3 x4 x5 x6 x7 x8 x9 7), .i (waitC x0 x1 x2 x3 x4 x5 x6 x7 x8 x9)] := by
  have hc := cnt_le x0
  unfold T_rWait T_rWait_s4 T_rWait_s3 T_rWait_s2 T_rWait_s1 T_rWait_s0
  cases hg : gate x0 x1 x2 x3 x4 x5 x6 x7 with
  | false =>
    simp only [cond_true, cond_false, Bool.not_true, Bool.not_false, Int.toNat_natCast, Nat.sub_zero, Bool.true_and, Bool.true_or, Nat.zero_add]
    repeat' (first | refine brNE (fun h => ?_) (fun h => ?_) | refine brT (decide_eq_true hr) ?_ | refine brD (fun h => ?_) (fun h => ?_) | refine brT rfl ?_ | refine brF rfl ?_)
    all_goals first
      | exact Tr.sat_ok.2 (no1 (by omega))
      | exact Tr.sat_ok.2 (no41 (by omega) hg)
      | (exfalso; omega)
  | true =>
    simp only [cond_true, cond_false, Bool.not_true, Bool.not_false, Int.toNat_natCast, Nat.sub_zero, Bool.true_and, Bool.true_or, Nat.zero_add]
    repeat' (first | refine brNE (fun h => ?_) (fun h => ?_) | refine brQ (fun h => ?_) (fun h => ?_) | refine brT (decide_eq_true hr) ?_ | refine brD (fun h => ?_) (fun h => ?_) | refine brT rfl ?_ | refine brF rfl ?_)
    all_goals first
      | exact Tr.sat_ok.2 (no1 (by omega))
      | exact Tr.sat_ok.2 (no2 (by omega) hg (by omega))
      | exact Tr.sat_ok.2 (no43 (by omega) hg (by omega) (by omega))
      | exact Tr.sat_ok.2 (waitL (by omega) hg (by omega) (by omega) (fun k => appG_add2 k))
      | (exfalso; omega)

section
variable {x0 x1 x2 x3 x4 x5 x6 x7 x8 : Int}
theorem meetR_no (h : meetB x0 x1 x2 x3 x4 x5 x6 x7 x8 = false) : ([.i 0, .i 0, .i 0, .i 0, .i 0, .i 0, .i 0, .i 0, .i 0, .b false] : List At) = [.i (meetI x0 x1 x2 x3 x4 x5 x6 x7 x8), .i (meetW x0 x1 x2 x3 x4 x5 x6 x7 x8 0), .i (meetW x0 x1 x2 x3 x4 x5 x6 x7 x8 1), .i (meetW x0 x1 x2 x3 x4 x5 x6 x7 x8 2), .i (meetW x0 x1 x2 x3 x4 x5 x6 x7 x8 3), .i (meetW x0 x1 x2 x3 x4 x5 x6 x7 x8 4), .i (meetW x0 x1 x2 x3 x4 x5 x6 x7 x8 5), .i (meetW x0 x1 x2 x3 x4 x5 x6 x7 x8 6), .i (meetW x0 x1 x2 x3 x4 x5 x6 x7 x8 7), .b (meetB x0 x1 x2 x3 x4 x5 x6 x7 x8)] := by
  unfold meetI meetW
  simp only [h, cond_false]
theorem meetB_g (hg : gate x0 x1 x2 x3 x4 x5 x6 x7 = false) : meetB x0 x1 x2 x3 x4 x5 x6 x7 x8 = false := by unfold meetB; rw [hg]; rfl
theorem meetB_n (h : ¬ ((x8 = 3 ∨ x8 = 4) ∧ (x0 % 16 = 3 ∨ x0 % 16 = 4) ∧ x0 % 16 ≠ x8)) : meetB x0 x1 x2 x3 x4 x5 x6 x7 x8 = false := by unfold meetB; rw [decide_eq_false h, Bool.and_false]
theorem meetB_y (hg : gate x0 x1 x2 x3 x4 x5 x6 x7 = true) (h : (x8 = 3 ∨ x8 = 4) ∧ (x0 % 16 = 3 ∨ x0 % 16 = 4) ∧ x0 % 16 ≠ x8) : meetB x0 x1 x2 x3 x4 x5 x6 x7 x8 = true := by unfold meetB; rw [hg, decide_eq_true h]; rfl
theorem gate_may (hg : gate x0 x1 x2 x3 x4 x5 x6 x7 = true) : mayBe (x0 % 16) (cnt x0) = true := by
  unfold gate lineOk at hg
  simp only [Bool.and_eq_true] at hg
  exact hg.1.1
theorem gate_1 (hg : gate x0 x1 x2 x3 x4 x5 x6 x7 = true) (h : x0 % 16 = 3 ∨ x0 % 16 = 4) : 1 ≤ cnt x0 := by
  have := gate_may hg
  simp only [mayBe, decide_eq_true_eq] at this
  omega
theorem meetR_one (hm : meetB x0 x1 x2 x3 x4 x5 x6 x7 x8 = true) (h1 : cnt x0 = 1) : ([.i (wds x1 x2 x3 x4 x5 x6 x7 0), .i 0, .i 0, .i 0, .i 0, .i 0, .i 0, .i 0, .i 0, .b true] : List At) = [.i (meetI x0 x1 x2 x3 x4 x5 x6 x7 x8), .i (meetW x0 x1 x2 x3 x4 x5 x6 x7 x8 0), .i (meetW x0 x1 x2 x3 x4 x5 x6 x7 x8 1), .i (meetW x0 x1 x2 x3 x4 x5 x6 x7 x8 2), .i (meetW x0 x1 x2 x3 x4 x5 x6 x7 x8 3), .i (meetW x0 x1 x2 x3 x4 x5 x6 x7 x8 4), .i (meetW x0 x1 x2 x3 x4 x5 x6 x7 x8 5), .i (meetW x0 x1 x2 x3 x4 x5 x6 x7 x8 6), .i (meetW x0 x1 x2 x3 x4 x5 x6 x7 x8 7), .b (meetB x0 x1 x2 x3 x4 x5 x6 x7 x8)] := by
  unfold meetI meetW
  simp only [hm, cond_true, h1, if_true]
  rfl
theorem rest_ok {G : Nat → Int} (hg : gate x0 x1 x2 x3 x4 x5 x6 x7 = true) (h : x0 % 16 = 3 ∨ x0 % 16 = 4) (h1 : ¬ cnt x0 = 1) (hG : ∀ k, G k = wds x1 x2 x3 x4 x5 x6 x7 (k + 1)) : lineOk (x0 % 16) (cnt x0 - 1) G = true := by
  have hc := cnt_le x0
  have := gate_1 hg h
  unfold lineOk
  rw [Bool.and_eq_true]
  refine ⟨decide_eq_true (by omega), decide_eq_true fun k hk => ?_⟩
  rw [hG]
  exact decide_eq_true (gate_id hg (k + 1) (by omega))
theorem meetR_more {G : Nat → Int} (hg : gate x0 x1 x2 x3 x4 x5 x6 x7 = true) (h : (x8 = 3 ∨ x8 = 4) ∧ (x0 % 16 = 3 ∨ x0 % 16 = 4) ∧ x0 % 16 ≠ x8) (h1 : ¬ cnt x0 = 1) (hG : ∀ k, G k = wds x1 x2 x3 x4 x5 x6 x7 (k + 1)) :
    ([.i (wds x1 x2 x3 x4 x5 x6 x7 0), .i (lineW (x0 % 16) (cnt x0 - 1) G 0), .i (lineW (x0 % 16) (cnt x0 - 1) G 1), .i (lineW (x0 % 16) (cnt x0 - 1) G 2), .i (lineW (x0 % 16) (cnt x0 - 1) G 3), .i (lineW (x0 % 16) (cnt x0 - 1) G 4), .i (lineW (x0 % 16) (cnt x0 - 1) G 5), .i (lineW (x0 % 16) (cnt x0 - 1) G 6), .i (lineW (x0 % 16) (cnt x0 - 1) G 7), .b true] : List At) = [.i (meetI x0 x1 x2 x3 x4 x5 x6 x7 x8), .i (meetW x0 x1 x2 x3 x4 x5 x6 x7 x8 0), .i (meetW x0 x1 x2 x3 x4 x5 x6 x7 x8 1), .i (meetW x0 x1 x2 x3 x4 x5 x6 x7 x8 2), .i (meetW x0 x1 x2 x3 x4 x5 x6 x7 x8 3), .i (meetW x0 x1 x2 x3 x4 x5 x6 x7 x8 4), .i (meetW x0 x1 x2 x3 x4 x5 x6 x7 x8 5), .i (meetW x0 x1 x2 x3 x4 x5 x6 x7 x8 6), .i (meetW x0 x1 x2 x3 x4 x5 x6 x7 x8 7), .b (meetB x0 x1 x2 x3 x4 x5 x6 x7 x8)] := by
  obtain rfl : G = fun k => wds x1 x2 x3 x4 x5 x6 x7 (k + 1) := funext hG
  have hl := rest_ok hg h.2.1 h1 hG
  unfold meetI meetW lineW
  rw [meetB_y hg h, hl]
  simp only [cond_true, if_neg h1]
  rfl
end

theorem gRows_0 (x1 x2 x3 x4 x5 x6 x7 : Int) (k : Nat) : gRows x1 x2 x3 x4 x5 x6 x7 k 0 = wds x1 x2 x3 x4 x5 x6 x7 k := rfl

theorem t_gMeet (x0 x1 x2 x3 x4 x5 x6 x7 x8 : Int) (hr : Rng x0 x1 x2 x3 x4 x5 x6 x7) : (T_gMeet x0 x1 x2 x3 x4 x5 x6 x7 x8).sat fun r => r = [.i (meetI x0 x1 x2 x3 x4 x5 x6 x7 x8), .i (meetW x0 x1 x2 x3 x4 x5 x6 x7 x8 0), .i (meetW x0 x1 x2 x3 x4 x5 x6 x7 x8 1), .i (meetW x0 x1 x2 x3 x4 x5 x6 x7 x8 2), .i (meetW x0 x1 x2 x3 x4 x5 x6 x7 x8 3), .i (meetW x0 x1 x2 x3 x4 x5 x6 x7 x8 4), .i (meetW x0 x1 x2 x3 x4 x5 x6 x7 x8 5), .i (meetW x0 x1 x2 x3 x4 x5 x6 x7 x8 6), .i (meetW x0 x1 x2 x3 x4 x5 x6 x7 x8 7), .b (meetB x0 x1 x2 x3 x4 x5 x6 x7 x8)] := by
  have hc := cnt_le x0
  unfold T_gMeet
  rw [waits_eq', waits_eq']
  cases hg : gate x0 x1 x2 x3 x4 x5 x6 x7 with
  | false => exact brT (decide_eq_true hr) (brT rfl (Tr.sat_ok.2 (meetR_no (meetB_g hg))))
  | true =>
    refine brT (decide_eq_true hr) (brF rfl ?_)
    simp only [cond_true, Int.toNat_natCast, Bool.true_and]
    have h1 := @gate_1 x0 x1 x2 x3 x4 x5 x6 x7 hg
    repeat' (first | refine brND (fun h => ?_) (fun h => ?_) | refine brQ (fun h => ?_) (fun h => ?_) | refine brD (fun h => ?_) (fun h => ?_) | refine brW (fun h => ?_) (fun h => ?_))
    all_goals first
      | exact Tr.sat_ok.2 (meetR_no (meetB_n (by omega)))
      | exact Tr.sat_ok.2 (meetR_one (meetB_y hg (by omega)) (by omega))
      | exact Tr.sat_ok.2 (meetR_more hg (by omega) (by omega) (fun k => by show gRows x1 x2 x3 x4 x5 x6 x7 (1 + k) 0 = _; rw [Nat.add_comm 1 k]; rfl))
      | (exfalso; omega)

theorem meet_one0 {x0 x1 x2 x3 x4 x5 x6 x7 x8 : Int} {G : Nat → Int} (hm : meetB x0 x1 x2 x3 x4 x5 x6 x7 x8 = true) (h1 : cnt x0 = 1) : ([.i (wds x1 x2 x3 x4 x5 x6 x7 0), .i (lineW 0 (cnt x0 - 1) G 0), .i (lineW 0 (cnt x0 - 1) G 1), .i (lineW 0 (cnt x0 - 1) G 2), .i (lineW 0 (cnt x0 - 1) G 3), .i (lineW 0 (cnt x0 - 1) G 4), .i (lineW 0 (cnt x0 - 1) G 5), .i (lineW 0 (cnt x0 - 1) G 6), .i (lineW 0 (cnt x0 - 1) G 7), .b true] : List At) = [.i (meetI x0 x1 x2 x3 x4 x5 x6 x7 x8), .i (meetW x0 x1 x2 x3 x4 x5 x6 x7 x8 0), .i (meetW x0 x1 x2 x3 x4 x5 x6 x7 x8 1), .i (meetW x0 x1 x2 x3 x4 x5 x6 x7 x8 2), .i (meetW x0 x1 x2 x3 x4 x5 x6 x7 x8 3), .i (meetW x0 x1 x2 x3 x4 x5 x6 x7 x8 4), .i (meetW x0 x1 x2 x3 x4 x5 x6 x7 x8 5), .i (meetW x0 x1 x2 x3 x4 x5 x6 x7 x8 6), .i (meetW x0 x1 x2 x3 x4 x5 x6 x7 x8 7), .b (meetB x0 x1 x2 x3 x4 x5 x6 x7 x8)] := by
  rw [← meetR_one hm h1, h1]
  have hl : lineOk 0 (1 - 1) G = true := by
    unfold lineOk
    rw [Bool.and_eq_true]
    exact ⟨rfl, decide_eq_true fun k hk => by omega⟩
  unfold lineW
  simp only [hl, cond_true]
  rfl

theorem t_rMeet (x0 x1 x2 x3 x4 x5 x6 x7 x8 : Int) (hr : Rng x0 x1 x2 x3 x4 x5 x6 x7) : (T_rMeet x0 x1 x2 x3 x4 x5 x6 x7 x8).sat fun r => r = [.i (meetI x0 x1 x2 x3 x4 x5 x6 x7 x8), .i (meetW x0 x1 x2 x3 x4 x5 x6 x7 x8 0), .i (meetW x0 x1 x2 x3 x4 x5 x6 x7 x8 1), .i (meetW x0 x1 x2 x3 x4 x5 x6 x7 x8 2), .i (meetW x0 x1 x2 x3 x4 x5 x6 x7 x8 3), .i (meetW x0 x1 x2 x3 x4 x5 x6 x7 x8 4), .i (meetW x0 x1 x2 x3 x4 x5 x6 x7 x8 5), .i (meetW x0 x1 x2 x3 x4 x5 x6 x7 x8 6), .i (meetW x0 x1 x2 x3 x4 x5 x6 x7 x8 7), .b (meetB x0 x1 x2 x3 x4 x5 x6 x7 x8)] := by
  have hc := cnt_le x0
  unfold T_rMeet
  cases hg : gate x0 x1 x2 x3 x4 x5 x6 x7 with
  | false => exact brT (decide_eq_true hr) (brT rfl (Tr.sat_ok.2 (meetR_no (meetB_g hg))))
  | true =>
    refine brT (decide_eq_true hr) ?_
    simp only [cond_true, cond_false, Int.toNat_natCast, Bool.true_and, Bool.not_true]
    have h1 := @gate_1 x0 x1 x2 x3 x4 x5 x6 x7 hg
    have c37 : (bif x8 == (3 : Int) then bif !x0 % (16 : Int) == (4 : Int) then bif x8 == (4 : Int) then !x0 % (16 : Int) == (3 : Int) else true else false else bif x8 == (4 : Int) then !x0 % (16 : Int) == (3 : Int) else true) = !decide ((x8 = 3 ∨ x8 = 4) ∧ (x0 % 16 = 3 ∨ x0 % 16 = 4) ∧ x0 % 16 ≠ x8) := by
      generalize x0 % 16 = m
      simp only [cond_eq_ite, beq_iff_eq, Bool.not_eq_true', beq_eq_false_iff_ne]
      repeat' split
      all_goals first
        | (symm; rw [Bool.not_eq_true']; exact decide_eq_false (by omega))
        | (symm; rw [Bool.not_eq_false']; exact decide_eq_true (by omega))
        | (rw [Bool.eq_iff_iff]; simp only [Bool.not_eq_true', beq_eq_false_iff_ne, decide_eq_false_iff_not]; omega)
    rw [c37]
    clear c37
    repeat' (first | refine brND (fun h => ?_) (fun h => ?_) | refine brQ (fun h => ?_) (fun h => ?_) | refine brD (fun h => ?_) (fun h => ?_) | refine brW (fun h => ?_) (fun h => ?_))
    all_goals first
      | exact Tr.sat_ok.2 (meetR_no (meetB_n (by omega)))
      | exact Tr.sat_ok.2 (meet_one0 (meetB_y hg (by omega)) (by omega))
      | exact Tr.sat_ok.2 (meetR_more hg (by omega) (by omega) (fun k => by show gRows x1 x2 x3 x4 x5 x6 x7 (1 + k) 0 = _; rw [Nat.add_comm 1 k]; rfl))
      | (exfalso; omega)

theorem h_gWait : ∀ l r, (F2_Wait l).val = some r → ∃ r', ((call Try.prog Γ_S4 y_gWait noLoops 100 Try.f13 (mkV ish_gWait l) (mkH ish_gWait l)).bind (leafO 0 osh_gWait)).val = some r' ∧ AtsEq r' r := by
  intro l r h
  obtain ⟨hc, h⟩ := guard_val h
  have := val_ok h
  subst this
  obtain ⟨r', h1, h2⟩ := t_gWait (aI l 0) (aI l 1) (aI l 2) (aI l 3) (aI l 4) (aI l 5) (aI l 6) (aI l 7) (aI l 8) (aI l 9) (of_decide_eq_true hc)
  exact ⟨r', by rw [e_gWait]; exact h1, by rw [h2]; exact AtsEq.refl _⟩
theorem h_rWait : ∀ l r, (F2_Wait l).val = some r → ∃ r', ((call Try.prog Γ_gWait y_rWait noLoops 100 Try.f14 (mkV ish_rWait l) (mkH ish_rWait l)).bind (leafO 0 osh_rWait)).val = some r' ∧ AtsEq r' r := by
  intro l r h
  obtain ⟨hc, h⟩ := guard_val h
  have := val_ok h
  subst this
  obtain ⟨r', h1, h2⟩ := t_rWait (aI l 0) (aI l 1) (aI l 2) (aI l 3) (aI l 4) (aI l 5) (aI l 6) (aI l 7) (aI l 8) (aI l 9) (of_decide_eq_true hc)
  exact ⟨r', by rw [e_rWait]; exact h1, by rw [h2]; exact AtsEq.refl _⟩
theorem h_gMeet : ∀ l r, (F2_Meet l).val = some r → ∃ r', ((call Try.prog Γ_rWait y_gMeet noLoops 100 Try.f15 (mkV ish_gMeet l) (mkH ish_gMeet l)).bind (leafO 0 osh_gMeet)).val = some r' ∧ AtsEq r' r := by
  intro l r h
  obtain ⟨hc, h⟩ := guard_val h
  have := val_ok h
  subst this
  obtain ⟨r', h1, h2⟩ := t_gMeet (aI l 0) (aI l 1) (aI l 2) (aI l 3) (aI l 4) (aI l 5) (aI l 6) (aI l 7) (aI l 8) (of_decide_eq_true hc)
  exact ⟨r', by rw [e_gMeet]; exact h1, by rw [h2]; exact AtsEq.refl _⟩
theorem h_rMeet : ∀ l r, (F2_Meet l).val = some r → ∃ r', ((call Try.prog Γ_gMeet y_rMeet noLoops 100 Try.f16 (mkV ish_rMeet l) (mkH ish_rMeet l)).bind (leafO 0 osh_rMeet)).val = some r' ∧ AtsEq r' r := by
  intro l r h
  obtain ⟨hc, h⟩ := guard_val h
  have := val_ok h
  subst this
  obtain ⟨r', h1, h2⟩ := t_rMeet (aI l 0) (aI l 1) (aI l 2) (aI l 3) (aI l 4) (aI l 5) (aI l 6) (aI l 7) (aI l 8) (of_decide_eq_true hc)
  exact ⟨r', by rw [e_rMeet]; exact h1, by rw [h2]; exact AtsEq.refl _⟩
theorem s2_gWait : SpecF Try.prog 13 (.eff (locF ish_gWait osh_gWait F2_Wait)) :=
  spec_loc (sy := y_gWait) (fuel := 100) (Lp := noLoops) o_S4 mixed ⟨Try.func13, by kernel_rfl, by kernel_rfl⟩ ish_gWait osh_gWait (noLoops_ok _) h_gWait
theorem s2_rWait : SpecF Try.prog 14 (.eff (locF ish_rWait osh_rWait F2_Wait)) :=
  spec_loc (sy := y_rWait) (fuel := 100) (Lp := noLoops) o_gWait mixed ⟨Try.func14, by kernel_rfl, by kernel_rfl⟩ ish_rWait osh_rWait (noLoops_ok _) h_rWait
theorem s2_gMeet : SpecF Try.prog 15 (.eff (locF ish_gMeet osh_gMeet F2_Meet)) :=
  spec_loc (sy := y_gMeet) (fuel := 100) (Lp := noLoops) o_rWait mixed ⟨Try.func15, by kernel_rfl, by kernel_rfl⟩ ish_gMeet osh_gMeet (noLoops_ok _) h_gMeet
theorem s2_rMeet : SpecF Try.prog 16 (.eff (locF ish_rMeet osh_rMeet F2_Meet)) :=
  spec_loc (sy := y_rMeet) (fuel := 100) (Lp := noLoops) o_gMeet mixed ⟨Try.func16, by kernel_rfl, by kernel_rfl⟩ ish_rMeet osh_rMeet (noLoops_ok _) h_rMeet
def Γ_S5 : Specs := (upd (upd (upd (upd Γ_rMeet 13 (.eff (locF ish_gWait osh_gWait F2_Wait))) 14 (.eff (locF ish_rWait osh_rWait F2_Wait))) 15 (.eff (locF ish_gMeet osh_gMeet F2_Meet))) 16 (.eff (locF ish_rMeet osh_rMeet F2_Meet)))
theorem o_S5 : SpecOK Try.prog Γ_S5 := (SpecOK.upd (SpecOK.upd (SpecOK.upd (SpecOK.upd o_rMeet s2_gWait) s2_rWait) s2_gMeet) s2_rMeet)
end Go.Proofs.Ytepdekambalmhaa.G

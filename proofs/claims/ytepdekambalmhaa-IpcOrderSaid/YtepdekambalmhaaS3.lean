/-
  What the functions that make a gate's line come to, in few words.
-/
import Derived.Test.YtepdekambalmhaaG3
import Derived.KernelRfl
namespace Go.Proofs.Ytepdekambalmhaa.G
open Go Go.AM Go.Proofs

def idOk (x : Int) : Bool := decide (0 ≤ x ∧ x < 49)
def waitM (m : Int) : Bool := decide (m = 3 ∨ m = 4)
/-- May so many wait in such a mode? -/
def mayBe (x0 : Int) (n : Nat) : Bool := decide (x0 = 0 ∧ n = 0 ∨ (x0 = 3 ∨ x0 = 4) ∧ 1 ≤ n ∧ n ≤ 7)
def lineOk (x0 : Int) (n : Nat) (g : Nat → Int) : Bool := mayBe x0 n && decide (∀ k, k < n → idOk (g k) = true)
def lineC (x0 : Int) (n : Nat) (g : Nat → Int) (j : Nat) : Int := if j = 0 then x0 + 16 * n else if j ≤ n then g (j - 1) else 0
def lineW (x0 : Int) (n : Nat) (g : Nat → Int) (j : Nat) : Int := bif lineOk x0 n g then lineC x0 n g j else 0
def lineE (x0 : Int) (n : Nat) (g : Nat → Int) : Int := bif lineOk x0 n g then 0 else 1

def F2_gLine (l : List At) : Tr (List At) :=
  .br 0 (decide (aRn l 1 ≤ 9223372036854775807)) (.ok [.i (lineW (aI l 0) (aRn l 1) (fun k => aRg l 1 k 0) 0), .i (lineW (aI l 0) (aRn l 1) (fun k => aRg l 1 k 0) 1), .i (lineW (aI l 0) (aRn l 1) (fun k => aRg l 1 k 0) 2), .i (lineW (aI l 0) (aRn l 1) (fun k => aRg l 1 k 0) 3), .i (lineW (aI l 0) (aRn l 1) (fun k => aRg l 1 k 0) 4), .i (lineW (aI l 0) (aRn l 1) (fun k => aRg l 1 k 0) 5), .i (lineW (aI l 0) (aRn l 1) (fun k => aRg l 1 k 0) 6), .i (lineW (aI l 0) (aRn l 1) (fun k => aRg l 1 k 0) 7), .i (lineE (aI l 0) (aRn l 1) (fun k => aRg l 1 k 0))]) .no

theorem lineR_ok {x0 : Int} {n1 : Nat} {g1 : Nat → Nat → Int} (h : lineOk x0 n1 (fun k => g1 k 0) = true) :
    ([.i (lineW x0 n1 (fun k => g1 k 0) 0), .i (lineW x0 n1 (fun k => g1 k 0) 1), .i (lineW x0 n1 (fun k => g1 k 0) 2), .i (lineW x0 n1 (fun k => g1 k 0) 3), .i (lineW x0 n1 (fun k => g1 k 0) 4), .i (lineW x0 n1 (fun k => g1 k 0) 5), .i (lineW x0 n1 (fun k => g1 k 0) 6), .i (lineW x0 n1 (fun k => g1 k 0) 7), .i (lineE x0 n1 (fun k => g1 k 0))] : List At) = [.i (lineC x0 n1 (fun k => g1 k 0) 0), .i (lineC x0 n1 (fun k => g1 k 0) 1), .i (lineC x0 n1 (fun k => g1 k 0) 2), .i (lineC x0 n1 (fun k => g1 k 0) 3), .i (lineC x0 n1 (fun k => g1 k 0) 4), .i (lineC x0 n1 (fun k => g1 k 0) 5), .i (lineC x0 n1 (fun k => g1 k 0) 6), .i (lineC x0 n1 (fun k => g1 k 0) 7), .i 0] := by
  simp only [lineW, lineE, h, cond_true]
theorem lineR_no {x0 : Int} {n1 : Nat} {g1 : Nat → Nat → Int} (h : lineOk x0 n1 (fun k => g1 k 0) = false) :
    ([.i (lineW x0 n1 (fun k => g1 k 0) 0), .i (lineW x0 n1 (fun k => g1 k 0) 1), .i (lineW x0 n1 (fun k => g1 k 0) 2), .i (lineW x0 n1 (fun k => g1 k 0) 3), .i (lineW x0 n1 (fun k => g1 k 0) 4), .i (lineW x0 n1 (fun k => g1 k 0) 5), .i (lineW x0 n1 (fun k => g1 k 0) 6), .i (lineW x0 n1 (fun k => g1 k 0) 7), .i (lineE x0 n1 (fun k => g1 k 0))] : List At) = [.i 0, .i 0, .i 0, .i 0, .i 0, .i 0, .i 0, .i 0, .i 1] := by
  simp only [lineW, lineE, h, cond_false]

theorem allIds {n : Nat} {g : Nat → Int} {p : Nat → Bool} (hp : ∀ k, p k = !idOk (g k)) : decide (findI p n 0 < n) = !decide (∀ k, k < n → idOk (g k) = true) := by
  obtain ⟨h1, h2, h3, h4⟩ := findI_spec p n 0
  by_cases h : findI p n 0 < n
  · have hb := h3 (by omega)
    rw [hp] at hb
    have : ¬ ∀ k, k < n → idOk (g k) = true := fun ha => by rw [ha _ h] at hb; cases hb
    rw [decide_eq_true h, decide_eq_false this]; rfl
  · have : ∀ k, k < n → idOk (g k) = true := fun k hk => by
      have := h4 k (Nat.zero_le _) (by omega)
      rw [hp] at this
      cases hc : idOk (g k) with
      | true => rfl
      | false => rw [hc] at this; cases this
    rw [decide_eq_false h, decide_eq_true this]; rfl

theorem notId_eq (x : Int) : r_notId_0 x = !idOk x := by
  unfold r_notId_0 r_isId_0 idOk
  congr 1
  by_cases h : x ≥ 0
  · simp [h]
  · simp [h]
theorem waits_eq (x : Int) : r_waits_0 x = waitM x := by
  unfold r_waits_0 waitM
  by_cases h : x = 3
  · simp [h]
  · by_cases h2 : x = 4 <;> simp [h, h2]

theorem hasF_eq {n : Nat} {g g' : Nat → Nat → Int} (hn : n ≤ 9223372036854775807) (hg : ∀ k, g' k 0 = g k 0) : ok_hasF n g' = true ∧ r_hasF_0 n g' = !decide (∀ k, k < n → idOk (g k 0) = true) := by
  have hc : decide ((0 : Int) ≤ (0 : Int) ∧ (↑n : Int) = (↑n : Int) ∧ (0 : Int) ≤ (↑n : Int) ∧ (↑n : Int) ≤ (9223372036854775807 : Int)) = true := decide_eq_true (by omega)
  have ho : ∀ g : Nat → Nat → Int, ok_idxF n g = true := fun g => by unfold ok_idxF; rw [hc]; simp
  have ha := allIds (n := n) (g := fun k => g k 0) (p := fun k => r_notId_0 (g' (0 + (0 + k)) 0)) (fun k => by rw [notId_eq, Nat.zero_add, Nat.zero_add, hg])
  refine ⟨by unfold ok_hasF; rw [ho]; rfl, ?_⟩
  unfold r_hasF_0 r_idxF_0
  rw [ho, hc]
  simp only [cond_true, show Int.toNat ((↑n : Int) - (0 : Int)) = n by omega, show Int.toNat (↑n : Int) = n by omega]
  rw [ha]
  cases decide (∀ k, k < n → idOk (g k 0) = true) with
  | true => rfl
  | false => simp

theorem word0_eq {x0 : Int} {n : Nat} (h : mayBe x0 n = true) : bits BinOp.or IntKind.u64 (IntKind.wrap IntKind.u64 x0) (IntKind.wrap IntKind.u64 (IntKind.wrap IntKind.u64 (↑n : Int) * (16 : Int))) = x0 + 16 * n := by
  simp only [mayBe, decide_eq_true_eq] at h
  rcases h with ⟨rfl, rfl⟩ | ⟨h1, h2, h3⟩
  · decide +kernel
  · obtain ⟨m, rfl, hm⟩ : ∃ m : Nat, n = m ∧ (m = 1 ∨ m = 2 ∨ m = 3 ∨ m = 4 ∨ m = 5 ∨ m = 6 ∨ m = 7) := ⟨n, rfl, by omega⟩
    rcases h1 with rfl | rfl <;> rcases hm with rfl | rfl | rfl | rfl | rfl | rfl | rfl <;> decide +kernel

theorem put_eq {x0 : Int} {n : Nat} {g g' : Nat → Int} (h : lineOk x0 n g = true) (hg : ∀ k, g' k = g k) (j : Nat) (hj : j ≠ 0) : put 0 n g' j 0 = lineC x0 n g j := by
  simp only [lineOk, Bool.and_eq_true, decide_eq_true_eq] at h
  unfold put lineC
  rw [if_neg hj]
  by_cases hn : j ≤ n
  · have := h.2 (j - 1) (by omega)
    simp only [idOk, decide_eq_true_eq] at this
    rw [if_pos hn, decide_eq_true (by omega), cond_true, hg, wrap_u64 (by omega) (by omega)]
  · rw [if_neg hn, decide_eq_false (by omega)]; rfl
theorem put_eq0 {x0 : Int} {n : Nat} {g g' : Nat → Int} (h : lineOk x0 n g = true) : put 0 n g' 0 (bits BinOp.or IntKind.u64 (IntKind.wrap IntKind.u64 x0) (IntKind.wrap IntKind.u64 (IntKind.wrap IntKind.u64 (↑n : Int) * (16 : Int)))) = lineC x0 n g 0 := by
  simp only [lineOk, Bool.and_eq_true] at h
  rw [word0_eq h.1]
  unfold put lineC
  rw [if_pos rfl, decide_eq_false (by omega)]; rfl

theorem puts_eq {x0 : Int} {n1 : Nat} {g1 : Nat → Nat → Int} (h : lineOk x0 n1 (fun k => g1 k 0) = true) : ([.i (put (0 : Int) (↑n1 : Int) (fun (k : Nat) => g1 ((0 : Nat) + k) (0 : Nat)) (0 : Nat) (bits BinOp.or IntKind.u64 (IntKind.wrap IntKind.u64 x0) (IntKind.wrap IntKind.u64 (IntKind.wrap IntKind.u64 (↑n1 : Int) * (16 : Int))))), .i (put (0 : Int) (↑n1 : Int) (fun (k : Nat) => g1 ((0 : Nat) + k) (0 : Nat)) (1 : Nat) (0 : Int)), .i (put (0 : Int) (↑n1 : Int) (fun (k : Nat) => g1 ((0 : Nat) + k) (0 : Nat)) (2 : Nat) (0 : Int)), .i (put (0 : Int) (↑n1 : Int) (fun (k : Nat) => g1 ((0 : Nat) + k) (0 : Nat)) (3 : Nat) (0 : Int)), .i (put (0 : Int) (↑n1 : Int) (fun (k : Nat) => g1 ((0 : Nat) + k) (0 : Nat)) (4 : Nat) (0 : Int)), .i (put (0 : Int) (↑n1 : Int) (fun (k : Nat) => g1 ((0 : Nat) + k) (0 : Nat)) (5 : Nat) (0 : Int)), .i (put (0 : Int) (↑n1 : Int) (fun (k : Nat) => g1 ((0 : Nat) + k) (0 : Nat)) (6 : Nat) (0 : Int)), .i (put (0 : Int) (↑n1 : Int) (fun (k : Nat) => g1 ((0 : Nat) + k) (0 : Nat)) (7 : Nat) (0 : Int)), .i 0] : List At) = [.i (lineW x0 n1 (fun k => g1 k 0) 0), .i (lineW x0 n1 (fun k => g1 k 0) 1), .i (lineW x0 n1 (fun k => g1 k 0) 2), .i (lineW x0 n1 (fun k => g1 k 0) 3), .i (lineW x0 n1 (fun k => g1 k 0) 4), .i (lineW x0 n1 (fun k => g1 k 0) 5), .i (lineW x0 n1 (fun k => g1 k 0) 6), .i (lineW x0 n1 (fun k => g1 k 0) 7), .i (lineE x0 n1 (fun k => g1 k 0))] := by
  have hg : ∀ k, (fun (k : Nat) => g1 ((0 : Nat) + k) (0 : Nat)) k = (fun k => g1 k 0) k := fun k => by simp only [Nat.zero_add]
  rw [lineR_ok h, put_eq0 h, put_eq h hg 1 (by decide), put_eq h hg 2 (by decide), put_eq h hg 3 (by decide), put_eq h hg 4 (by decide), put_eq h hg 5 (by decide), put_eq h hg 6 (by decide), put_eq h hg 7 (by decide)]

theorem t_gLine {x0 : Int} {n1 : Nat} {g1 : Nat → Nat → Int} (hn : n1 ≤ 9223372036854775807) : (T_gLine x0 n1 g1).sat fun r => r = [.i (lineW x0 n1 (fun k => g1 k 0) 0), .i (lineW x0 n1 (fun k => g1 k 0) 1), .i (lineW x0 n1 (fun k => g1 k 0) 2), .i (lineW x0 n1 (fun k => g1 k 0) 3), .i (lineW x0 n1 (fun k => g1 k 0) 4), .i (lineW x0 n1 (fun k => g1 k 0) 5), .i (lineW x0 n1 (fun k => g1 k 0) 6), .i (lineW x0 n1 (fun k => g1 k 0) 7), .i (lineE x0 n1 (fun k => g1 k 0))] := by
  obtain ⟨e1, e2⟩ := hasF_eq (g' := fun j cc => g1 (0 + j) cc) (g := g1) hn (fun k => by rw [Nat.zero_add])
  have bad : lineOk x0 n1 (fun k => g1 k 0) = false → ([.i 0, .i 0, .i 0, .i 0, .i 0, .i 0, .i 0, .i 0, .i 1] : List At) = _ := fun h => (lineR_no h).symm
  have hm : mayBe x0 n1 = false → lineOk x0 n1 (fun k => g1 k 0) = false := fun h => by unfold lineOk; rw [h]; rfl
  have ha : r_hasF_0 n1 (fun j cc => g1 (0 + j) cc) = true → lineOk x0 n1 (fun k => g1 k 0) = false := fun h => by
    rw [e2, Bool.not_eq_true'] at h
    unfold lineOk
    rw [h, Bool.and_false]
  have hb : mayBe x0 n1 = true → r_hasF_0 n1 (fun j cc => g1 (0 + j) cc) = false → lineOk x0 n1 (fun k => g1 k 0) = true := fun h1 h2 => by
    rw [e2, Bool.not_eq_false'] at h2
    unfold lineOk
    rw [h1, h2]; rfl
  have c36 : (!bif waitM x0 then bif decide ((↑n1 : Int) > (0 : Int)) then decide ((↑n1 : Int) ≤ (7 : Int)) else false else false) = !decide ((x0 = 3 ∨ x0 = 4) ∧ 1 ≤ n1 ∧ n1 ≤ 7) := by
    congr 1
    unfold waitM
    by_cases h1 : x0 = 3 ∨ x0 = 4
    · rw [decide_eq_true h1, cond_true]
      by_cases h2 : (n1 : Int) > 0
      · rw [decide_eq_true h2, cond_true, decide_eq_decide]; omega
      · rw [decide_eq_false h2, cond_false, decide_eq_false (by omega)]
    · rw [decide_eq_false h1, cond_false, decide_eq_false (by omega)]
  unfold T_gLine
  rw [waits_eq, c36]
  clear c36 e2
  repeat' (first | refine brT e1 ?_ | refine brD (fun h => ?_) (fun h => ?_) | refine brND (fun h => ?_) (fun h => ?_) | refine brNQ (fun h => ?_) (fun h => ?_) | refine brQ (fun h => ?_) (fun h => ?_) | refine brC (fun h => ?_) (fun h => ?_))
  all_goals first
    | exact Tr.sat_ok.2 (bad (ha (by assumption)))
    | exact Tr.sat_ok.2 (bad (hm (decide_eq_false (by omega))))
    | exact Tr.sat_ok.2 (puts_eq (hb (decide_eq_true (by omega)) (by assumption)))
    | (exfalso; omega)
    | (exfalso; simp at *; done)

theorem t_rLine {x0 : Int} {n1 : Nat} {g1 : Nat → Nat → Int} (hn : n1 ≤ 9223372036854775807) : (T_rLine x0 n1 g1).sat fun r => r = [.i (lineW x0 n1 (fun k => g1 k 0) 0), .i (lineW x0 n1 (fun k => g1 k 0) 1), .i (lineW x0 n1 (fun k => g1 k 0) 2), .i (lineW x0 n1 (fun k => g1 k 0) 3), .i (lineW x0 n1 (fun k => g1 k 0) 4), .i (lineW x0 n1 (fun k => g1 k 0) 5), .i (lineW x0 n1 (fun k => g1 k 0) 6), .i (lineW x0 n1 (fun k => g1 k 0) 7), .i (lineE x0 n1 (fun k => g1 k 0))] := by
  have bad : lineOk x0 n1 (fun k => g1 k 0) = false → ([.i 0, .i 0, .i 0, .i 0, .i 0, .i 0, .i 0, .i 0, .i 1] : List At) = _ := fun h => (lineR_no h).symm
  have hm : mayBe x0 n1 = false → lineOk x0 n1 (fun k => g1 k 0) = false := fun h => by unfold lineOk; rw [h]; rfl
  have c3 : (!bif x0 == (0 : Int) then bif (↑n1 : Int) == (0 : Int) then true else (rLine_c3 x0 n1) else (rLine_c3 x0 n1)) = !mayBe x0 n1 := by
    congr 1
    have e : rLine_c3 x0 n1 = decide ((x0 = 3 ∨ x0 = 4) ∧ 1 ≤ n1 ∧ n1 ≤ 7) := by
      unfold rLine_c3
      simp only [cond_eq_ite, beq_iff_eq, decide_eq_true_eq]
      repeat' split
      all_goals first
        | exact decide_eq_decide.2 (by omega)
        | (symm; exact decide_eq_true (by omega))
        | (symm; exact decide_eq_false (by omega))
    rw [e]
    unfold mayBe
    simp only [cond_eq_ite, beq_iff_eq]
    repeat' split
    all_goals first
      | exact decide_eq_decide.2 (by omega)
      | (symm; exact decide_eq_true (by omega))
      | (symm; exact decide_eq_false (by omega))
  have ha := allIds (n := n1) (g := fun k => g1 k 0) (p := fun (k : Nat) => decide (g1 ((0 : Nat) + k) (0 : Nat) < (0 : Int)) || decide (g1 ((0 : Nat) + k) (0 : Nat) ≥ (49 : Int))) (fun k => by
    rw [Nat.zero_add]
    unfold idOk
    by_cases h1 : g1 k 0 < 0
    · have : ¬ (0 ≤ g1 k 0 ∧ g1 k 0 < 49) := by omega
      rw [decide_eq_true h1, decide_eq_false this]; rfl
    · by_cases h2 : g1 k 0 ≥ 49
      · have : ¬ (0 ≤ g1 k 0 ∧ g1 k 0 < 49) := by omega
        rw [decide_eq_true h2, decide_eq_false this, Bool.or_true]; rfl
      · have : 0 ≤ g1 k 0 ∧ g1 k 0 < 49 := by omega
        rw [decide_eq_false h1, decide_eq_false h2, decide_eq_true this]; rfl)
  have e0 : Int.toNat ((↑n1 : Int) - (0 : Int)) = n1 := by omega
  unfold T_rLine
  rw [c3, e0, ha]
  cases h1 : mayBe x0 n1 with
  | false => exact brT rfl (Tr.sat_ok.2 (bad (hm h1)))
  | true =>
    have h7 : n1 ≤ 7 := by
      simp only [mayBe, decide_eq_true_eq] at h1
      omega
    refine brF rfl (brT (decide_eq_true (by omega)) ?_)
    cases h2 : decide (∀ k, k < n1 → idOk (g1 k 0) = true) with
    | false => exact brT rfl (Tr.sat_ok.2 (bad (by unfold lineOk; rw [h2, Bool.and_false])))
    | true => exact brF rfl (Tr.sat_ok.2 (puts_eq (by unfold lineOk; rw [h1, h2]; rfl)))

theorem h_gLine : ∀ l r, (F2_gLine l).val = some r → ∃ r', ((call Try.prog Γ_hasF y_gLine Lp_gLine_7 100 Try.f8 (mkV ish_gLine l) (mkH ish_gLine l)).bind (leafO 1 osh_gLine)).val = some r' ∧ AtsEq r' r := by
  intro l r h
  obtain ⟨hc, h⟩ := guard_val h
  have := val_ok h
  subst this
  obtain ⟨r', h1, h2⟩ := t_gLine (x0 := aI l 0) (n1 := aRn l 1) (g1 := aRg l 1) (of_decide_eq_true hc)
  exact ⟨r', by rw [e_gLine]; exact h1, by rw [h2]; exact AtsEq.refl _⟩
theorem h_rLine : ∀ l r, (F2_gLine l).val = some r → ∃ r', ((call Try.prog Γ_gLine y_rLine Lp_rLine_7 100 Try.f9 (mkV ish_rLine l) (mkH ish_rLine l)).bind (leafO 1 osh_rLine)).val = some r' ∧ AtsEq r' r := by
  intro l r h
  obtain ⟨hc, h⟩ := guard_val h
  have := val_ok h
  subst this
  obtain ⟨r', h1, h2⟩ := t_rLine (x0 := aI l 0) (n1 := aRn l 1) (g1 := aRg l 1) (of_decide_eq_true hc)
  exact ⟨r', by rw [e_rLine]; exact h1, by rw [h2]; exact AtsEq.refl _⟩

theorem s2_gLine : SpecF Try.prog 8 (.read (locR ish_gLine osh_gLine F2_gLine)) :=
  spec_read (sy := y_gLine) (fuel := 100) (Lp := Lp_gLine_7) o_hasF mixed ⟨Try.func8, by kernel_rfl, by kernel_rfl⟩ ish_gLine osh_gLine (by kernel_rfl) lk_gLine_7 h_gLine
theorem s2_rLine : SpecF Try.prog 9 (.read (locR ish_rLine osh_rLine F2_gLine)) :=
  spec_read (sy := y_rLine) (fuel := 100) (Lp := Lp_rLine_7) o_gLine mixed ⟨Try.func9, by kernel_rfl, by kernel_rfl⟩ ish_rLine osh_rLine (by kernel_rfl) lk_rLine_7 h_rLine
def Γ_S3 : Specs := upd (upd Γ_rLine 8 (.read (locR ish_gLine osh_gLine F2_gLine))) 9 (.read (locR ish_rLine osh_rLine F2_gLine))
theorem o_S3 : SpecOK Try.prog Γ_S3 := SpecOK.upd (SpecOK.upd o_rLine s2_gLine) s2_rLine
end Go.Proofs.Ytepdekambalmhaa.G

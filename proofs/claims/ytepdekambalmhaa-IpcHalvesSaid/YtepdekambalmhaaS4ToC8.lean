/-
  What the functions that read a gate's line come to, in few words.
-/
import Derived.Test.YtepdekambalmhaaG4
import Derived.Test.YtepdekambalmhaaAn5ToAnR
import Derived.KernelRfl
section
namespace Go.Proofs.Ytepdekambalmhaa.G
open Go Go.AM Go.Proofs

/-- How many numbers are looked at. -/
def cnt (x0 : Int) : Nat := min (x0 / 16 % 16).toNat 7
def wds (x1 x2 x3 x4 x5 x6 x7 : Int) (k : Nat) : Int := [x1, x2, x3, x4, x5, x6, x7].getD k 0
/-- Is it a gate's line? -/
def gate (x0 x1 x2 x3 x4 x5 x6 x7 : Int) : Bool := lineOk (x0 % 16) (cnt x0) (wds x1 x2 x3 x4 x5 x6 x7) && (lineC (x0 % 16) (cnt x0) (wds x1 x2 x3 x4 x5 x6 x7) 0 == x0 && (lineC (x0 % 16) (cnt x0) (wds x1 x2 x3 x4 x5 x6 x7) 1 == x1 && (lineC (x0 % 16) (cnt x0) (wds x1 x2 x3 x4 x5 x6 x7) 2 == x2 && (lineC (x0 % 16) (cnt x0) (wds x1 x2 x3 x4 x5 x6 x7) 3 == x3 && (lineC (x0 % 16) (cnt x0) (wds x1 x2 x3 x4 x5 x6 x7) 4 == x4 && (lineC (x0 % 16) (cnt x0) (wds x1 x2 x3 x4 x5 x6 x7) 5 == x5 && (lineC (x0 % 16) (cnt x0) (wds x1 x2 x3 x4 x5 x6 x7) 6 == x6 && (lineC (x0 % 16) (cnt x0) (wds x1 x2 x3 x4 x5 x6 x7) 7 == x7 && true))))))))
def gRows (x1 x2 x3 x4 x5 x6 x7 : Int) : Nat → Nat → Int := fun i c => match c with
  | 0 => wds x1 x2 x3 x4 x5 x6 x7 i
  | _ + 1 => 0
def ofR (x0 x1 x2 x3 x4 x5 x6 x7 : Int) : List At := [.i (bif gate x0 x1 x2 x3 x4 x5 x6 x7 then x0 % 16 else 0), .b (gate x0 x1 x2 x3 x4 x5 x6 x7), .r (bif gate x0 x1 x2 x3 x4 x5 x6 x7 then cnt x0 else 0) (gRows x1 x2 x3 x4 x5 x6 x7)]
def Rng (x0 x1 x2 x3 x4 x5 x6 x7 : Int) : Prop := 0 ≤ x0 ∧ x0 < 18446744073709551616 ∧ 0 ≤ x1 ∧ x1 < 18446744073709551616 ∧ 0 ≤ x2 ∧ x2 < 18446744073709551616 ∧ 0 ≤ x3 ∧ x3 < 18446744073709551616 ∧ 0 ≤ x4 ∧ x4 < 18446744073709551616 ∧ 0 ≤ x5 ∧ x5 < 18446744073709551616 ∧ 0 ≤ x6 ∧ x6 < 18446744073709551616 ∧ 0 ≤ x7 ∧ x7 < 18446744073709551616
instance (x0 x1 x2 x3 x4 x5 x6 x7 : Int) : Decidable (Rng x0 x1 x2 x3 x4 x5 x6 x7) := by unfold Rng; infer_instance
def F2_Of (l : List At) : Tr (List At) := .br 0 (decide (Rng (aI l 0) (aI l 1) (aI l 2) (aI l 3) (aI l 4) (aI l 5) (aI l 6) (aI l 7))) (.ok (ofR (aI l 0) (aI l 1) (aI l 2) (aI l 3) (aI l 4) (aI l 5) (aI l 6) (aI l 7))) .no

theorem wds_rng {x0 x1 x2 x3 x4 x5 x6 x7 : Int} (h : Rng x0 x1 x2 x3 x4 x5 x6 x7) (k : Nat) : 0 ≤ wds x1 x2 x3 x4 x5 x6 x7 k ∧ wds x1 x2 x3 x4 x5 x6 x7 k < 18446744073709551616 := by
  unfold Rng at h
  obtain ⟨_, _, h⟩ := h
  unfold wds
  match k with
  | 0 | 1 | 2 | 3 | 4 | 5 | 6 => simp only [List.getD_cons_zero, List.getD_cons_succ]; omega
  | k + 7 => simp only [List.getD_cons_succ, List.getD_nil]; omega

theorem idOk_wrap {x : Int} (h0 : 0 ≤ x) (h1 : x < 18446744073709551616) : idOk (IntKind.wrap IntKind.i64 x) = idOk x := by
  by_cases h : x < 9223372036854775808
  · rw [wrap_i64 (by omega) h]
  · have e : IntKind.wrap IntKind.i64 x = x - 18446744073709551616 := by
      simp [IntKind.wrap, IntKind.bits, IntKind.signed]; omega
    rw [e]
    unfold idOk
    rw [decide_eq_false (by omega), decide_eq_false (by omega)]

theorem gateC {x0 x1 x2 x3 x4 x5 x6 x7 m : Int} {k : Nat} {G : Nat → Int} (hr : Rng x0 x1 x2 x3 x4 x5 x6 x7) (hm : m = x0 % 16) (hk : k = cnt x0) (hG : ∀ i, i < k → G i = IntKind.wrap IntKind.i64 (wds x1 x2 x3 x4 x5 x6 x7 i)) :
    (bif lineE m k G != (0 : Int) then true else !(lineW m k G 0 == x0 && (lineW m k G 1 == x1 && (lineW m k G 2 == x2 && (lineW m k G 3 == x3 && (lineW m k G 4 == x4 && (lineW m k G 5 == x5 && (lineW m k G 6 == x6 && (lineW m k G 7 == x7 && true))))))))) = !gate x0 x1 x2 x3 x4 x5 x6 x7 := by
  have e : lineOk m k G = lineOk (x0 % 16) (cnt x0) (wds x1 x2 x3 x4 x5 x6 x7) := by
    subst hm; subst hk
    unfold lineOk
    congr 1
    refine decide_eq_decide.2 ⟨fun h i hi => ?_, fun h i hi => ?_⟩
    · have := h i hi
      rw [hG i hi, idOk_wrap (wds_rng hr i).1 (wds_rng hr i).2] at this
      exact this
    · rw [hG i hi, idOk_wrap (wds_rng hr i).1 (wds_rng hr i).2]
      exact h i hi
  unfold gate lineE lineW
  rw [e]
  cases ho : lineOk (x0 % 16) (cnt x0) (wds x1 x2 x3 x4 x5 x6 x7) with
  | false => rfl
  | true =>
    have hC : ∀ j, lineC m k G j = lineC (x0 % 16) (cnt x0) (wds x1 x2 x3 x4 x5 x6 x7) j := by
      intro j
      subst hm; subst hk
      unfold lineC
      by_cases h0 : j = 0
      · rw [if_pos h0, if_pos h0]
      · rw [if_neg h0, if_neg h0]
        by_cases hj : j ≤ cnt x0
        · rw [if_pos hj, if_pos hj, hG _ (by omega)]
          simp only [lineOk, Bool.and_eq_true, decide_eq_true_eq] at ho
          have := ho.2 (j - 1) (by omega)
          simp only [idOk, decide_eq_true_eq] at this
          exact wrap_i64 (by omega) (by omega)
        · rw [if_neg hj, if_neg hj]
    simp only [hC, cond_true, Bool.true_and]
    rfl

theorem fin {x0 x1 x2 x3 x4 x5 x6 x7 : Int} {c : Bool} {g : Nat} {k : Nat} {m : Int} {R : Nat → Nat → Int} (hm : m = x0 % 16) (hk : k = cnt x0) (hc : c = !gate x0 x1 x2 x3 x4 x5 x6 x7) (hR : gate x0 x1 x2 x3 x4 x5 x6 x7 = true → ∀ i, i < k → ∀ c, R i c = gRows x1 x2 x3 x4 x5 x6 x7 i c) :
    (Tr.br g c (.ok [(.i ((0 : Int))), (.b (false)), (.r ((0 : Nat)) (fun (x x_1 : Nat) => (0 : Int)))]) (.ok [(.i m), (.b (true)), (.r k R)])).sat fun r => AtsEq r (ofR x0 x1 x2 x3 x4 x5 x6 x7) := by
  subst hc
  unfold ofR
  cases hg : gate x0 x1 x2 x3 x4 x5 x6 x7 with
  | false => exact brT rfl (Tr.sat_ok.2 (atsEq_cons (AtEq.refl _) (atsEq_cons (AtEq.refl _) (atsEq_cons (atEq_r rfl fun i hi => by omega) atsEq_nil))))
  | true => exact brF rfl (Tr.sat_ok.2 (atsEq_cons (atEq_i hm) (atsEq_cons (AtEq.refl _) (atsEq_cons (atEq_r hk (hR hg)) atsEq_nil))))

theorem gate_id {x0 x1 x2 x3 x4 x5 x6 x7 : Int} (h : gate x0 x1 x2 x3 x4 x5 x6 x7 = true) (i : Nat) (hi : i < cnt x0) : 0 ≤ wds x1 x2 x3 x4 x5 x6 x7 i ∧ wds x1 x2 x3 x4 x5 x6 x7 i < 49 := by
  unfold gate at h
  simp only [Bool.and_eq_true] at h
  have h := h.1
  simp only [lineOk, Bool.and_eq_true, decide_eq_true_eq] at h
  have := h.2 i hi
  simpa [idOk] using this

theorem rows_ok {x0 x1 x2 x3 x4 x5 x6 x7 : Int} {R : Nat → Nat → Int} {k : Nat} (hk : k = cnt x0) (h : ∀ i, i < k → ∀ c, R i c = [IntKind.wrap IntKind.i64 (wds x1 x2 x3 x4 x5 x6 x7 i)].getD c 0) (hg : gate x0 x1 x2 x3 x4 x5 x6 x7 = true) : ∀ i, i < k → ∀ c, R i c = gRows x1 x2 x3 x4 x5 x6 x7 i c := by
  intro i hi c
  rw [h i hi c]
  subst hk
  have := gate_id hg i hi
  cases c with
  | zero => exact wrap_i64 (by omega) (by omega)
  | succ c => rfl

theorem rows0 (x1 x2 x3 x4 x5 x6 x7 : Int) : ∀ i, i < 0 → ∀ c, (fun (x x_1 : Nat) => (0 : Int)) i c = [IntKind.wrap IntKind.i64 (wds x1 x2 x3 x4 x5 x6 x7 i)].getD c 0 := by
  intro i hi; omega

theorem rows1 (x1 x2 x3 x4 x5 x6 x7 : Int) : ∀ i, i < 1 → ∀ c, (rowsF [[IntKind.wrap IntKind.i64 x1]]) i c = [IntKind.wrap IntKind.i64 (wds x1 x2 x3 x4 x5 x6 x7 i)].getD c 0 := by
  intro i hi c
  obtain rfl : i = 0 := by omega
  all_goals rfl

theorem rows2 (x1 x2 x3 x4 x5 x6 x7 : Int) : ∀ i, i < 2 → ∀ c, (appG (rowsF [[IntKind.wrap IntKind.i64 x1]]) (1 : Nat) (rowsF [[IntKind.wrap IntKind.i64 x2]])) i c = [IntKind.wrap IntKind.i64 (wds x1 x2 x3 x4 x5 x6 x7 i)].getD c 0 := by
  intro i hi c
  obtain rfl | rfl : i = 0 ∨ i = 1 := by omega
  all_goals rfl

theorem rows3 (x1 x2 x3 x4 x5 x6 x7 : Int) : ∀ i, i < 3 → ∀ c, (appG (appG (rowsF [[IntKind.wrap IntKind.i64 x1]]) (1 : Nat) (rowsF [[IntKind.wrap IntKind.i64 x2]])) (2 : Nat) (rowsF [[IntKind.wrap IntKind.i64 x3]])) i c = [IntKind.wrap IntKind.i64 (wds x1 x2 x3 x4 x5 x6 x7 i)].getD c 0 := by
  intro i hi c
  obtain rfl | rfl | rfl : i = 0 ∨ i = 1 ∨ i = 2 := by omega
  all_goals rfl

theorem rows4 (x1 x2 x3 x4 x5 x6 x7 : Int) : ∀ i, i < 4 → ∀ c, (appG (appG (appG (rowsF [[IntKind.wrap IntKind.i64 x1]]) (1 : Nat) (rowsF [[IntKind.wrap IntKind.i64 x2]])) (2 : Nat) (rowsF [[IntKind.wrap IntKind.i64 x3]])) (3 : Nat) (rowsF [[IntKind.wrap IntKind.i64 x4]])) i c = [IntKind.wrap IntKind.i64 (wds x1 x2 x3 x4 x5 x6 x7 i)].getD c 0 := by
  intro i hi c
  obtain rfl | rfl | rfl | rfl : i = 0 ∨ i = 1 ∨ i = 2 ∨ i = 3 := by omega
  all_goals rfl

theorem rows5 (x1 x2 x3 x4 x5 x6 x7 : Int) : ∀ i, i < 5 → ∀ c, (appG (appG (appG (appG (rowsF [[IntKind.wrap IntKind.i64 x1]]) (1 : Nat) (rowsF [[IntKind.wrap IntKind.i64 x2]])) (2 : Nat) (rowsF [[IntKind.wrap IntKind.i64 x3]])) (3 : Nat) (rowsF [[IntKind.wrap IntKind.i64 x4]])) (4 : Nat) (rowsF [[IntKind.wrap IntKind.i64 x5]])) i c = [IntKind.wrap IntKind.i64 (wds x1 x2 x3 x4 x5 x6 x7 i)].getD c 0 := by
  intro i hi c
  obtain rfl | rfl | rfl | rfl | rfl : i = 0 ∨ i = 1 ∨ i = 2 ∨ i = 3 ∨ i = 4 := by omega
  all_goals rfl

theorem rows6 (x1 x2 x3 x4 x5 x6 x7 : Int) : ∀ i, i < 6 → ∀ c, (appG (appG (appG (appG (appG (rowsF [[IntKind.wrap IntKind.i64 x1]]) (1 : Nat) (rowsF [[IntKind.wrap IntKind.i64 x2]])) (2 : Nat) (rowsF [[IntKind.wrap IntKind.i64 x3]])) (3 : Nat) (rowsF [[IntKind.wrap IntKind.i64 x4]])) (4 : Nat) (rowsF [[IntKind.wrap IntKind.i64 x5]])) (5 : Nat) (rowsF [[IntKind.wrap IntKind.i64 x6]])) i c = [IntKind.wrap IntKind.i64 (wds x1 x2 x3 x4 x5 x6 x7 i)].getD c 0 := by
  intro i hi c
  obtain rfl | rfl | rfl | rfl | rfl | rfl : i = 0 ∨ i = 1 ∨ i = 2 ∨ i = 3 ∨ i = 4 ∨ i = 5 := by omega
  all_goals rfl

theorem rows7 (x1 x2 x3 x4 x5 x6 x7 : Int) : ∀ i, i < 7 → ∀ c, (appG (appG (appG (appG (appG (appG (rowsF [[IntKind.wrap IntKind.i64 x1]]) (1 : Nat) (rowsF [[IntKind.wrap IntKind.i64 x2]])) (2 : Nat) (rowsF [[IntKind.wrap IntKind.i64 x3]])) (3 : Nat) (rowsF [[IntKind.wrap IntKind.i64 x4]])) (4 : Nat) (rowsF [[IntKind.wrap IntKind.i64 x5]])) (5 : Nat) (rowsF [[IntKind.wrap IntKind.i64 x6]])) (6 : Nat) (rowsF [[IntKind.wrap IntKind.i64 x7]])) i c = [IntKind.wrap IntKind.i64 (wds x1 x2 x3 x4 x5 x6 x7 i)].getD c 0 := by
  intro i hi c
  obtain rfl | rfl | rfl | rfl | rfl | rfl | rfl : i = 0 ∨ i = 1 ∨ i = 2 ∨ i = 3 ∨ i = 4 ∨ i = 5 ∨ i = 6 := by omega
  all_goals rfl

theorem mode_and {x0 : Int} (h0 : 0 ≤ x0) (h1 : x0 < 18446744073709551616) : IntKind.wrap IntKind.i64 (bits BinOp.and IntKind.u64 x0 (15 : Int)) = x0 % 16 := by
  obtain ⟨n, rfl⟩ := Int.eq_ofNat_of_zero_le h0
  have hn : n < 18446744073709551616 := by omega
  have e : bits BinOp.and IntKind.u64 (n : Int) 15 = ((n &&& 15 : Nat) : Int) := u64_and_nat _ 15 hn (by decide)
  have e2 : n &&& 15 = n % 16 := Nat.and_two_pow_sub_one_eq_mod n 4
  rw [e, e2, wrap_i64 (by omega) (by omega)]
  rfl
theorem div_16 {x0 : Int} : Int.fdiv x0 16 = x0 / 16 := by
  rw [Int.fdiv_eq_ediv_of_nonneg _ (by decide)]

theorem t_gOf (x0 x1 x2 x3 x4 x5 x6 x7 : Int) (hr : Rng x0 x1 x2 x3 x4 x5 x6 x7) : (T_gOf x0 x1 x2 x3 x4 x5 x6 x7).sat fun r => AtsEq r (ofR x0 x1 x2 x3 x4 x5 x6 x7) := by
  have hx : 0 ≤ x0 ∧ x0 < 18446744073709551616 := ⟨hr.1, hr.2.1⟩
  have hq : (if (7 : Int) < IntKind.wrap IntKind.i64 (bits BinOp.and IntKind.u64 (Int.fdiv x0 (16 : Int)) (15 : Int)) then (7 : Int) else IntKind.wrap IntKind.i64 (bits BinOp.and IntKind.u64 (Int.fdiv x0 (16 : Int)) (15 : Int))) = (cnt x0 : Nat) := by
    rw [div_16, mode_and (by omega) (by omega)]
    unfold cnt
    split <;> omega
  have hm := mode_and hx.1 hx.2
  have hc : cnt x0 ≤ 7 := by unfold cnt; omega
  unfold T_gOf
  rw [hq]
  generalize IntKind.wrap IntKind.i64 (bits BinOp.and IntKind.u64 x0 (15 : Int)) = m at hm ⊢
  clear hq
  refine brQ (fun h => brT (decide_eq_true (by decide)) (fin hm (k := 0) (by omega) (gateC hr hm (by omega) (fun i hi => by omega)) (rows_ok (by omega) (rows0 x1 x2 x3 x4 x5 x6 x7)))) (fun h0 => ?_)
  refine brQ (fun h => brT (decide_eq_true (by decide)) (fin hm (k := 1) (by omega) (gateC hr hm (by omega) (fun i hi => by have := rows1 x1 x2 x3 x4 x5 x6 x7 i hi 0; rw [Nat.zero_add]; exact this)) (rows_ok (by omega) (rows1 x1 x2 x3 x4 x5 x6 x7)))) (fun h1 => ?_)
  refine brQ (fun h => brT (decide_eq_true (by decide)) (fin hm (k := 2) (by omega) (gateC hr hm (by omega) (fun i hi => by have := rows2 x1 x2 x3 x4 x5 x6 x7 i hi 0; rw [Nat.zero_add]; exact this)) (rows_ok (by omega) (rows2 x1 x2 x3 x4 x5 x6 x7)))) (fun h2 => ?_)
  refine brQ (fun h => brT (decide_eq_true (by decide)) (fin hm (k := 3) (by omega) (gateC hr hm (by omega) (fun i hi => by have := rows3 x1 x2 x3 x4 x5 x6 x7 i hi 0; rw [Nat.zero_add]; exact this)) (rows_ok (by omega) (rows3 x1 x2 x3 x4 x5 x6 x7)))) (fun h3 => ?_)
  refine brQ (fun h => brT (decide_eq_true (by decide)) (fin hm (k := 4) (by omega) (gateC hr hm (by omega) (fun i hi => by have := rows4 x1 x2 x3 x4 x5 x6 x7 i hi 0; rw [Nat.zero_add]; exact this)) (rows_ok (by omega) (rows4 x1 x2 x3 x4 x5 x6 x7)))) (fun h4 => ?_)
  refine brQ (fun h => brT (decide_eq_true (by decide)) (fin hm (k := 5) (by omega) (gateC hr hm (by omega) (fun i hi => by have := rows5 x1 x2 x3 x4 x5 x6 x7 i hi 0; rw [Nat.zero_add]; exact this)) (rows_ok (by omega) (rows5 x1 x2 x3 x4 x5 x6 x7)))) (fun h5 => ?_)
  refine brQ (fun h => brT (decide_eq_true (by decide)) (fin hm (k := 6) (by omega) (gateC hr hm (by omega) (fun i hi => by have := rows6 x1 x2 x3 x4 x5 x6 x7 i hi 0; rw [Nat.zero_add]; exact this)) (rows_ok (by omega) (rows6 x1 x2 x3 x4 x5 x6 x7)))) (fun h6 => ?_)
  refine brQ (fun h => brT (decide_eq_true (by decide)) (fin hm (k := 7) (by omega) (gateC hr hm (by omega) (fun i hi => by have := rows7 x1 x2 x3 x4 x5 x6 x7 i hi 0; rw [Nat.zero_add]; exact this)) (rows_ok (by omega) (rows7 x1 x2 x3 x4 x5 x6 x7)))) (fun h7 => ?_)
  exfalso; omega

theorem t_rOf (x0 x1 x2 x3 x4 x5 x6 x7 : Int) (hr : Rng x0 x1 x2 x3 x4 x5 x6 x7) : (T_rOf x0 x1 x2 x3 x4 x5 x6 x7).sat fun r => AtsEq r (ofR x0 x1 x2 x3 x4 x5 x6 x7) := by
  have hx : 0 ≤ x0 ∧ x0 < 18446744073709551616 := ⟨hr.1, hr.2.1⟩
  obtain ⟨q, hq, hqc, hq0⟩ : ∃ q : Int, Int.tmod (IntKind.wrap IntKind.u64 (Int.tdiv x0 (16 : Int))) (16 : Int) = q ∧ (cnt x0 : Int) = min q 7 ∧ 0 ≤ q ∧ q ≤ 15 := by
    have e : Int.tmod (IntKind.wrap IntKind.u64 (Int.tdiv x0 (16 : Int))) (16 : Int) = x0 / 16 % 16 := by
      rw [Int.tdiv_eq_ediv_of_nonneg hx.1, wrap_u64 (by omega) (by omega), Int.tmod_eq_emod_of_nonneg (by omega)]
    refine ⟨_, e, ?_, by omega⟩
    unfold cnt
    omega
  have hm : IntKind.wrap IntKind.i64 (Int.tmod x0 (16 : Int)) = x0 % 16 := by
    rw [Int.tmod_eq_emod_of_nonneg hx.1, wrap_i64 (by omega) (by omega)]
  unfold T_rOf
  rw [hq]
  generalize IntKind.wrap IntKind.i64 (Int.tmod x0 (16 : Int)) = m at hm ⊢
  clear hq
  refine brQ (fun h => by exfalso; omega) (fun _ => ?_)
  refine brQ (fun h => by exfalso; omega) (fun _ => ?_)
  refine brQ (fun h => by exfalso; omega) (fun _ => ?_)
  refine brQ (fun h => by exfalso; omega) (fun _ => ?_)
  refine brQ (fun h => by exfalso; omega) (fun _ => ?_)
  refine brQ (fun h => by exfalso; omega) (fun _ => ?_)
  refine brQ (fun h => by exfalso; omega) (fun _ => ?_)
  refine brQ (fun h => by exfalso; omega) (fun _ => ?_)
  refine brQ (fun h => by exfalso; omega) (fun _ => ?_)
  refine brQ (fun h => by exfalso; omega) (fun _ => ?_)
  refine brQ (fun h => by exfalso; omega) (fun _ => ?_)
  refine brQ (fun h => by exfalso; omega) (fun _ => ?_)
  refine brQ (fun h => by exfalso; omega) (fun _ => ?_)
  refine brQ (fun h => by exfalso; omega) (fun _ => ?_)
  refine brQ (fun h => by exfalso; omega) (fun _ => ?_)
  refine brQ (fun h => brT (decide_eq_true (by decide)) (fin hm (k := 0) (by omega) (gateC hr hm (by omega) (fun i hi => by omega)) (rows_ok (by omega) (rows0 x1 x2 x3 x4 x5 x6 x7)))) (fun h0 => ?_)
  refine brQ (fun h => brT (decide_eq_true (by decide)) (fin hm (k := 1) (by omega) (gateC hr hm (by omega) (fun i hi => by have := rows1 x1 x2 x3 x4 x5 x6 x7 i hi 0; rw [Nat.zero_add]; exact this)) (rows_ok (by omega) (rows1 x1 x2 x3 x4 x5 x6 x7)))) (fun h1 => ?_)
  refine brQ (fun h => brT (decide_eq_true (by decide)) (fin hm (k := 2) (by omega) (gateC hr hm (by omega) (fun i hi => by have := rows2 x1 x2 x3 x4 x5 x6 x7 i hi 0; rw [Nat.zero_add]; exact this)) (rows_ok (by omega) (rows2 x1 x2 x3 x4 x5 x6 x7)))) (fun h2 => ?_)
  refine brQ (fun h => brT (decide_eq_true (by decide)) (fin hm (k := 3) (by omega) (gateC hr hm (by omega) (fun i hi => by have := rows3 x1 x2 x3 x4 x5 x6 x7 i hi 0; rw [Nat.zero_add]; exact this)) (rows_ok (by omega) (rows3 x1 x2 x3 x4 x5 x6 x7)))) (fun h3 => ?_)
  refine brQ (fun h => brT (decide_eq_true (by decide)) (fin hm (k := 4) (by omega) (gateC hr hm (by omega) (fun i hi => by have := rows4 x1 x2 x3 x4 x5 x6 x7 i hi 0; rw [Nat.zero_add]; exact this)) (rows_ok (by omega) (rows4 x1 x2 x3 x4 x5 x6 x7)))) (fun h4 => ?_)
  refine brQ (fun h => brT (decide_eq_true (by decide)) (fin hm (k := 5) (by omega) (gateC hr hm (by omega) (fun i hi => by have := rows5 x1 x2 x3 x4 x5 x6 x7 i hi 0; rw [Nat.zero_add]; exact this)) (rows_ok (by omega) (rows5 x1 x2 x3 x4 x5 x6 x7)))) (fun h5 => ?_)
  refine brQ (fun h => brT (decide_eq_true (by decide)) (fin hm (k := 6) (by omega) (gateC hr hm (by omega) (fun i hi => by have := rows6 x1 x2 x3 x4 x5 x6 x7 i hi 0; rw [Nat.zero_add]; exact this)) (rows_ok (by omega) (rows6 x1 x2 x3 x4 x5 x6 x7)))) (fun h6 => ?_)
  refine brQ (fun h => brT (decide_eq_true (by decide)) (fin hm (k := 7) (by omega) (gateC hr hm (by omega) (fun i hi => by have := rows7 x1 x2 x3 x4 x5 x6 x7 i hi 0; rw [Nat.zero_add]; exact this)) (rows_ok (by omega) (rows7 x1 x2 x3 x4 x5 x6 x7)))) (fun h7 => ?_)
  refine brQ (fun h => brT (decide_eq_true (by decide)) (fin hm (k := 7) (by omega) (gateC hr hm (by omega) (fun i hi => by have := rows7 x1 x2 x3 x4 x5 x6 x7 i hi 0; rw [Nat.zero_add]; exact this)) (rows_ok (by omega) (rows7 x1 x2 x3 x4 x5 x6 x7)))) (fun h8 => ?_)
  refine brQ (fun h => brT (decide_eq_true (by decide)) (fin hm (k := 7) (by omega) (gateC hr hm (by omega) (fun i hi => by have := rows7 x1 x2 x3 x4 x5 x6 x7 i hi 0; rw [Nat.zero_add]; exact this)) (rows_ok (by omega) (rows7 x1 x2 x3 x4 x5 x6 x7)))) (fun h9 => ?_)
  refine brQ (fun h => brT (decide_eq_true (by decide)) (fin hm (k := 7) (by omega) (gateC hr hm (by omega) (fun i hi => by have := rows7 x1 x2 x3 x4 x5 x6 x7 i hi 0; rw [Nat.zero_add]; exact this)) (rows_ok (by omega) (rows7 x1 x2 x3 x4 x5 x6 x7)))) (fun h10 => ?_)
  refine brQ (fun h => brT (decide_eq_true (by decide)) (fin hm (k := 7) (by omega) (gateC hr hm (by omega) (fun i hi => by have := rows7 x1 x2 x3 x4 x5 x6 x7 i hi 0; rw [Nat.zero_add]; exact this)) (rows_ok (by omega) (rows7 x1 x2 x3 x4 x5 x6 x7)))) (fun h11 => ?_)
  refine brQ (fun h => brT (decide_eq_true (by decide)) (fin hm (k := 7) (by omega) (gateC hr hm (by omega) (fun i hi => by have := rows7 x1 x2 x3 x4 x5 x6 x7 i hi 0; rw [Nat.zero_add]; exact this)) (rows_ok (by omega) (rows7 x1 x2 x3 x4 x5 x6 x7)))) (fun h12 => ?_)
  refine brQ (fun h => brT (decide_eq_true (by decide)) (fin hm (k := 7) (by omega) (gateC hr hm (by omega) (fun i hi => by have := rows7 x1 x2 x3 x4 x5 x6 x7 i hi 0; rw [Nat.zero_add]; exact this)) (rows_ok (by omega) (rows7 x1 x2 x3 x4 x5 x6 x7)))) (fun h13 => ?_)
  refine brQ (fun h => brT (decide_eq_true (by decide)) (fin hm (k := 7) (by omega) (gateC hr hm (by omega) (fun i hi => by have := rows7 x1 x2 x3 x4 x5 x6 x7 i hi 0; rw [Nat.zero_add]; exact this)) (rows_ok (by omega) (rows7 x1 x2 x3 x4 x5 x6 x7)))) (fun h14 => ?_)
  refine brQ (fun h => brT (decide_eq_true (by decide)) (fin hm (k := 7) (by omega) (gateC hr hm (by omega) (fun i hi => by have := rows7 x1 x2 x3 x4 x5 x6 x7 i hi 0; rw [Nat.zero_add]; exact this)) (rows_ok (by omega) (rows7 x1 x2 x3 x4 x5 x6 x7)))) (fun h15 => ?_)
  exfalso; omega

theorem h_gOf : ∀ l r, (F2_Of l).val = some r → ∃ r', ((call Try.prog Γ_S3 y_gOf noLoops 100 Try.f10 (mkV ish_gOf l) (mkH ish_gOf l)).bind (leafO 0 osh_gOf)).val = some r' ∧ AtsEq r' r := by
  intro l r h
  obtain ⟨hc, h⟩ := guard_val h
  have := val_ok h
  subst this
  obtain ⟨r', h1, h2⟩ := t_gOf (aI l 0) (aI l 1) (aI l 2) (aI l 3) (aI l 4) (aI l 5) (aI l 6) (aI l 7) (of_decide_eq_true hc)
  exact ⟨r', by rw [e_gOf]; exact h1, h2⟩
theorem s2_gOf : SpecF Try.prog 10 (.eff (locF ish_gOf osh_gOf F2_Of)) :=
  spec_loc (sy := y_gOf) (fuel := 100) (Lp := noLoops) o_S3 mixed ⟨Try.func10, by kernel_rfl, by kernel_rfl⟩ ish_gOf osh_gOf (noLoops_ok _) h_gOf

theorem h_rOf : ∀ l r, (F2_Of l).val = some r → ∃ r', ((call Try.prog Γ_gOf y_rOf noLoops 100 Try.f11 (mkV ish_rOf l) (mkH ish_rOf l)).bind (leafO 0 osh_rOf)).val = some r' ∧ AtsEq r' r := by
  intro l r h
  obtain ⟨hc, h⟩ := guard_val h
  have := val_ok h
  subst this
  obtain ⟨r', h1, h2⟩ := t_rOf (aI l 0) (aI l 1) (aI l 2) (aI l 3) (aI l 4) (aI l 5) (aI l 6) (aI l 7) (of_decide_eq_true hc)
  exact ⟨r', by rw [e_rOf]; exact h1, h2⟩
theorem s2_rOf : SpecF Try.prog 11 (.eff (locF ish_rOf osh_rOf F2_Of)) :=
  spec_loc (sy := y_rOf) (fuel := 100) (Lp := noLoops) o_gOf mixed ⟨Try.func11, by kernel_rfl, by kernel_rfl⟩ ish_rOf osh_rOf (noLoops_ok _) h_rOf
def Γ_S4 : Specs := upd (upd Γ_rOf 10 (.eff (locF ish_gOf osh_gOf F2_Of))) 11 (.eff (locF ish_rOf osh_rOf F2_Of))
theorem o_S4 : SpecOK Try.prog Γ_S4 := SpecOK.upd (SpecOK.upd o_rOf s2_gOf) s2_rOf
end Go.Proofs.Ytepdekambalmhaa.G
end

/-
  What functions of the seat compute, printed by a program from the explorer.
-/
section
namespace Go.Proofs.Ytepdekambalmhaa.G
open Go Go.AM Go.Proofs
/-! ### gWait -/

def ish_gWait : FSh := ⟨[.v true [.k (.n .u64), .k (.n .u64), .k (.n .u64), .k (.n .u64), .k (.n .u64), .k (.n .u64), .k (.n .u64), .k (.n .u64)], .v false [.k (.n .i64)], .v false [.k (.n .i64)]], []⟩
def osh_gWait : FSh := ⟨[.tup [(true, [.k (.n .u64), .k (.n .u64), .k (.n .u64), .k (.n .u64), .k (.n .u64), .k (.n .u64), .k (.n .u64), .k (.n .u64)]), (false, [.k (.n .i64)])]], []⟩
def T_gWait (x0 : Int) (x1 : Int) (x2 : Int) (x3 : Int) (x4 : Int) (x5 : Int) (x6 : Int) (x7 : Int) (x8 : Int) (x9 : Int) : Tr (List At) :=
 .br 14 (!r_waits_0 x8)
 (.ok [(.i ((0 : Int))), (.i ((0 : Int))), (.i ((0 : Int))), (.i ((0 : Int))), (.i ((0 : Int))), (.i ((0 : Int))), (.i ((0 : Int))), (.i ((0 : Int))), (.i ((1 : Int)))])
 (.br 18 (!r_isId_0 x9)
 (.ok [(.i ((0 : Int))), (.i ((0 : Int))), (.i ((0 : Int))), (.i ((0 : Int))), (.i ((0 : Int))), (.i ((0 : Int))), (.i ((0 : Int))), (.i ((0 : Int))), (.i ((1 : Int)))])
 (.br 0 (decide (Rng x0 x1 x2 x3 x4 x5 x6 x7))
 (.br 26 (!gate x0 x1 x2 x3 x4 x5 x6 x7)
 (.ok [(.i ((0 : Int))), (.i ((0 : Int))), (.i ((0 : Int))), (.i ((0 : Int))), (.i ((0 : Int))), (.i ((0 : Int))), (.i ((0 : Int))), (.i ((0 : Int))), (.i ((41 : Int)))])
 (.br 33 ((bif gate x0 x1 x2 x3 x4 x5 x6 x7 then x0 % (16 : Int) else (0 : Int)) != (0 : Int))
 (.br 30 ((bif gate x0 x1 x2 x3 x4 x5 x6 x7 then x0 % (16 : Int) else (0 : Int)) != x8)
 (.ok [(.i ((0 : Int))), (.i ((0 : Int))), (.i ((0 : Int))), (.i ((0 : Int))), (.i ((0 : Int))), (.i ((0 : Int))), (.i ((0 : Int))), (.i ((0 : Int))), (.i ((1 : Int)))])
 (.br 39 ((↑(bif gate x0 x1 x2 x3 x4 x5 x6 x7 then cnt x0 else (0 : Nat)) : Int) == (7 : Int))
 (.ok [(.i ((0 : Int))), (.i ((0 : Int))), (.i ((0 : Int))), (.i ((0 : Int))), (.i ((0 : Int))), (.i ((0 : Int))), (.i ((0 : Int))), (.i ((0 : Int))), (.i ((43 : Int)))])
 (.br 50 (true && decide ((0 : Int) ≤ (↑(bif gate x0 x1 x2 x3 x4 x5 x6 x7 then cnt x0 else (0 : Nat)) : Int)) && (↑(bif gate x0 x1 x2 x3 x4 x5 x6 x7 then cnt x0 else (0 : Nat)) : Int) == (↑(bif gate x0 x1 x2 x3 x4 x5 x6 x7 then cnt x0 else (0 : Nat)) : Int) && decide ((↑(bif gate x0 x1 x2 x3 x4 x5 x6 x7 then cnt x0 else (0 : Nat)) : Int) ≤ (↑(bif gate x0 x1 x2 x3 x4 x5 x6 x7 then cnt x0 else (0 : Nat)) : Int)))
 (.br 53 ((true || Int.toNat (↑(bif gate x0 x1 x2 x3 x4 x5 x6 x7 then cnt x0 else (0 : Nat)) : Int) - (0 : Nat) == (0 : Nat)) && decide (Int.toNat (↑(bif gate x0 x1 x2 x3 x4 x5 x6 x7 then cnt x0 else (0 : Nat)) : Int) - (0 : Nat) + (1 : Nat) ≤ (1073741824 : Nat)))
 (.br 0 (decide (Int.toNat (↑(bif gate x0 x1 x2 x3 x4 x5 x6 x7 then cnt x0 else (0 : Nat)) : Int) - (0 : Nat) + (1 : Nat) ≤ (9223372036854775807 : Nat)))
 (.ok [(.i (lineW x8 (Int.toNat (↑(bif gate x0 x1 x2 x3 x4 x5 x6 x7 then cnt x0 else (0 : Nat)) : Int) - (0 : Nat) + (1 : Nat)) (fun (k : Nat) => appG (fun (k c : Nat) => gRows x1 x2 x3 x4 x5 x6 x7 ((0 : Nat) + k) c) (Int.toNat (↑(bif gate x0 x1 x2 x3 x4 x5 x6 x7 then cnt x0 else (0 : Nat)) : Int) - (0 : Nat)) (rowsF [[x9]]) ((0 : Nat) + k) (0 : Nat)) (0 : Nat))), (.i (lineW x8 (Int.toNat (↑(bif gate x0 x1 x2 x3 x4 x5 x6 x7 then cnt x0 else (0 : Nat)) : Int) - (0 : Nat) + (1 : Nat)) (fun (k : Nat) => appG (fun (k c : Nat) => gRows x1 x2 x3 x4 x5 x6 x7 ((0 : Nat) + k) c) (Int.toNat (↑(bif gate x0 x1 x2 x3 x4 x5 x6 x7 then cnt x0 else (0 : Nat)) : Int) - (0 : Nat)) (rowsF [[x9]]) ((0 : Nat) + k) (0 : Nat)) (1 : Nat))), (.i (lineW x8 (Int.toNat (↑(bif gate x0 x1 x2 x3 x4 x5 x6 x7 then cnt x0 else (0 : Nat)) : Int) - (0 : Nat) + (1 : Nat)) (fun (k : Nat) => appG (fun (k c : Nat) => gRows x1 x2 x3 x4 x5 x6 x7 ((0 : Nat) + k) c) (Int.toNat (↑(bif gate x0 x1 x2 x3 x4 x5 x6 x7 then cnt x0 else (0 : Nat)) : Int) - (0 : Nat)) (rowsF [[x9]]) ((0 : Nat) + k) (0 : Nat)) (2 : Nat))), (.i (lineW x8 (Int.toNat (↑(bif gate x0 x1 x2 x3 x4 x5 x6 x7 then cnt x0 else (0 : Nat)) : Int) - (0 : Nat) + (1 : Nat)) (fun (k : Nat) => appG (fun (k c : Nat) => gRows x1 x2 x3 x4 x5 x6 x7 ((0 : Nat) + k) c) (Int.toNat (↑(bif gate x0 x1 x2 x3 x4 x5 x6 x7 then cnt x0 else (0 : Nat)) : Int) - (0 : Nat)) (rowsF [[x9]]) ((0 : Nat) + k) (0 : Nat)) (3 : Nat))), (.i (lineW x8 (Int.toNat (↑(bif gate x0 x1 x2 x3 x4 x5 x6 x7 then cnt x0 else (0 : Nat)) : Int) - (0 : Nat) + (1 : Nat)) (fun (k : Nat) => appG (fun (k c : Nat) => gRows x1 x2 x3 x4 x5 x6 x7 ((0 : Nat) + k) c) (Int.toNat (↑(bif gate x0 x1 x2 x3 x4 x5 x6 x7 then cnt x0 else (0 : Nat)) : Int) - (0 : Nat)) (rowsF [[x9]]) ((0 : Nat) + k) (0 : Nat)) (4 : Nat))), (.i (lineW x8 (Int.toNat (↑(bif gate x0 x1 x2 x3 x4 x5 x6 x7 then cnt x0 else (0 : Nat)) : Int) - (0 : Nat) + (1 : Nat)) (fun (k : Nat) => appG (fun (k c : Nat) => gRows x1 x2 x3 x4 x5 x6 x7 ((0 : Nat) + k) c) (Int.toNat (↑(bif gate x0 x1 x2 x3 x4 x5 x6 x7 then cnt x0 else (0 : Nat)) : Int) - (0 : Nat)) (rowsF [[x9]]) ((0 : Nat) + k) (0 : Nat)) (5 : Nat))), (.i (lineW x8 (Int.toNat (↑(bif gate x0 x1 x2 x3 x4 x5 x6 x7 then cnt x0 else (0 : Nat)) : Int) - (0 : Nat) + (1 : Nat)) (fun (k : Nat) => appG (fun (k c : Nat) => gRows x1 x2 x3 x4 x5 x6 x7 ((0 : Nat) + k) c) (Int.toNat (↑(bif gate x0 x1 x2 x3 x4 x5 x6 x7 then cnt x0 else (0 : Nat)) : Int) - (0 : Nat)) (rowsF [[x9]]) ((0 : Nat) + k) (0 : Nat)) (6 : Nat))), (.i (lineW x8 (Int.toNat (↑(bif gate x0 x1 x2 x3 x4 x5 x6 x7 then cnt x0 else (0 : Nat)) : Int) - (0 : Nat) + (1 : Nat)) (fun (k : Nat) => appG (fun (k c : Nat) => gRows x1 x2 x3 x4 x5 x6 x7 ((0 : Nat) + k) c) (Int.toNat (↑(bif gate x0 x1 x2 x3 x4 x5 x6 x7 then cnt x0 else (0 : Nat)) : Int) - (0 : Nat)) (rowsF [[x9]]) ((0 : Nat) + k) (0 : Nat)) (7 : Nat))), (.i (lineE x8 (Int.toNat (↑(bif gate x0 x1 x2 x3 x4 x5 x6 x7 then cnt x0 else (0 : Nat)) : Int) - (0 : Nat) + (1 : Nat)) fun (k : Nat) => appG (fun (k c : Nat) => gRows x1 x2 x3 x4 x5 x6 x7 ((0 : Nat) + k) c) (Int.toNat (↑(bif gate x0 x1 x2 x3 x4 x5 x6 x7 then cnt x0 else (0 : Nat)) : Int) - (0 : Nat)) (rowsF [[x9]]) ((0 : Nat) + k) (0 : Nat)))])
 (.no))
 (.no))
 (.no))))
 (.br 39 ((↑(bif gate x0 x1 x2 x3 x4 x5 x6 x7 then cnt x0 else (0 : Nat)) : Int) == (7 : Int))
 (.ok [(.i ((0 : Int))), (.i ((0 : Int))), (.i ((0 : Int))), (.i ((0 : Int))), (.i ((0 : Int))), (.i ((0 : Int))), (.i ((0 : Int))), (.i ((0 : Int))), (.i ((43 : Int)))])
 (.br 50 (true && decide ((0 : Int) ≤ (↑(bif gate x0 x1 x2 x3 x4 x5 x6 x7 then cnt x0 else (0 : Nat)) : Int)) && (↑(bif gate x0 x1 x2 x3 x4 x5 x6 x7 then cnt x0 else (0 : Nat)) : Int) == (↑(bif gate x0 x1 x2 x3 x4 x5 x6 x7 then cnt x0 else (0 : Nat)) : Int) && decide ((↑(bif gate x0 x1 x2 x3 x4 x5 x6 x7 then cnt x0 else (0 : Nat)) : Int) ≤ (↑(bif gate x0 x1 x2 x3 x4 x5 x6 x7 then cnt x0 else (0 : Nat)) : Int)))
 (.br 53 ((true || Int.toNat (↑(bif gate x0 x1 x2 x3 x4 x5 x6 x7 then cnt x0 else (0 : Nat)) : Int) - (0 : Nat) == (0 : Nat)) && decide (Int.toNat (↑(bif gate x0 x1 x2 x3 x4 x5 x6 x7 then cnt x0 else (0 : Nat)) : Int) - (0 : Nat) + (1 : Nat) ≤ (1073741824 : Nat)))
 (.br 0 (decide (Int.toNat (↑(bif gate x0 x1 x2 x3 x4 x5 x6 x7 then cnt x0 else (0 : Nat)) : Int) - (0 : Nat) + (1 : Nat) ≤ (9223372036854775807 : Nat)))
 (.ok [(.i (lineW x8 (Int.toNat (↑(bif gate x0 x1 x2 x3 x4 x5 x6 x7 then cnt x0 else (0 : Nat)) : Int) - (0 : Nat) + (1 : Nat)) (fun (k : Nat) => appG (fun (k c : Nat) => gRows x1 x2 x3 x4 x5 x6 x7 ((0 : Nat) + k) c) (Int.toNat (↑(bif gate x0 x1 x2 x3 x4 x5 x6 x7 then cnt x0 else (0 : Nat)) : Int) - (0 : Nat)) (rowsF [[x9]]) ((0 : Nat) + k) (0 : Nat)) (0 : Nat))), (.i (lineW x8 (Int.toNat (↑(bif gate x0 x1 x2 x3 x4 x5 x6 x7 then cnt x0 else (0 : Nat)) : Int) - (0 : Nat) + (1 : Nat)) (fun (k : Nat) => appG (fun (k c : Nat) => gRows x1 x2 x3 x4 x5 x6 x7 ((0 : Nat) + k) c) (Int.toNat (↑(bif gate x0 x1 x2 x3 x4 x5 x6 x7 then cnt x0 else (0 : Nat)) : Int) - (0 : Nat)) (rowsF [[x9]]) ((0 : Nat) + k) (0 : Nat)) (1 : Nat))), (.i (lineW x8 (Int.toNat (↑(bif gate x0 x1 x2 x3 x4 x5 x6 x7 then cnt x0 else (0 : Nat)) : Int) - (0 : Nat) + (1 : Nat)) (fun (k : Nat) => appG (fun (k c : Nat) => gRows x1 x2 x3 x4 x5 x6 x7 ((0 : Nat) + k) c) (Int.toNat (↑(bif gate x0 x1 x2 x3 x4 x5 x6 x7 then cnt x0 else (0 : Nat)) : Int) - (0 : Nat)) (rowsF [[x9]]) ((0 : Nat) + k) (0 : Nat)) (2 : Nat))), (.i (lineW x8 (Int.toNat (↑(bif gate x0 x1 x2 x3 x4 x5 x6 x7 then cnt x0 else (0 : Nat)) : Int) - (0 : Nat) + (1 : Nat)) (fun (k : Nat) => appG (fun (k c : Nat) => gRows x1 x2 x3 x4 x5 x6 x7 ((0 : Nat) + k) c) (Int.toNat (↑(bif gate x0 x1 x2 x3 x4 x5 x6 x7 then cnt x0 else (0 : Nat)) : Int) - (0 : Nat)) (rowsF [[x9]]) ((0 : Nat) + k) (0 : Nat)) (3 : Nat))), (.i (lineW x8 (Int.toNat (↑(bif gate x0 x1 x2 x3 x4 x5 x6 x7 then cnt x0 else (0 : Nat)) : Int) - (0 : Nat) + (1 : Nat)) (fun (k : Nat) => appG (fun (k c : Nat) => gRows x1 x2 x3 x4 x5 x6 x7 ((0 : Nat) + k) c) (Int.toNat (↑(bif gate x0 x1 x2 x3 x4 x5 x6 x7 then cnt x0 else (0 : Nat)) : Int) - (0 : Nat)) (rowsF [[x9]]) ((0 : Nat) + k) (0 : Nat)) (4 : Nat))), (.i (lineW x8 (Int.toNat (↑(bif gate x0 x1 x2 x3 x4 x5 x6 x7 then cnt x0 else (0 : Nat)) : Int) - (0 : Nat) + (1 : Nat)) (fun (k : Nat) => appG (fun (k c : Nat) => gRows x1 x2 x3 x4 x5 x6 x7 ((0 : Nat) + k) c) (Int.toNat (↑(bif gate x0 x1 x2 x3 x4 x5 x6 x7 then cnt x0 else (0 : Nat)) : Int) - (0 : Nat)) (rowsF [[x9]]) ((0 : Nat) + k) (0 : Nat)) (5 : Nat))), (.i (lineW x8 (Int.toNat (↑(bif gate x0 x1 x2 x3 x4 x5 x6 x7 then cnt x0 else (0 : Nat)) : Int) - (0 : Nat) + (1 : Nat)) (fun (k : Nat) => appG (fun (k c : Nat) => gRows x1 x2 x3 x4 x5 x6 x7 ((0 : Nat) + k) c) (Int.toNat (↑(bif gate x0 x1 x2 x3 x4 x5 x6 x7 then cnt x0 else (0 : Nat)) : Int) - (0 : Nat)) (rowsF [[x9]]) ((0 : Nat) + k) (0 : Nat)) (6 : Nat))), (.i (lineW x8 (Int.toNat (↑(bif gate x0 x1 x2 x3 x4 x5 x6 x7 then cnt x0 else (0 : Nat)) : Int) - (0 : Nat) + (1 : Nat)) (fun (k : Nat) => appG (fun (k c : Nat) => gRows x1 x2 x3 x4 x5 x6 x7 ((0 : Nat) + k) c) (Int.toNat (↑(bif gate x0 x1 x2 x3 x4 x5 x6 x7 then cnt x0 else (0 : Nat)) : Int) - (0 : Nat)) (rowsF [[x9]]) ((0 : Nat) + k) (0 : Nat)) (7 : Nat))), (.i (lineE x8 (Int.toNat (↑(bif gate x0 x1 x2 x3 x4 x5 x6 x7 then cnt x0 else (0 : Nat)) : Int) - (0 : Nat) + (1 : Nat)) fun (k : Nat) => appG (fun (k c : Nat) => gRows x1 x2 x3 x4 x5 x6 x7 ((0 : Nat) + k) c) (Int.toNat (↑(bif gate x0 x1 x2 x3 x4 x5 x6 x7 then cnt x0 else (0 : Nat)) : Int) - (0 : Nat)) (rowsF [[x9]]) ((0 : Nat) + k) (0 : Nat)))])
 (.no))
 (.no))
 (.no)))))
 (.no)))
def y_gWait : Nat → Option Nat := (syOf3 [14, 18, 26, 33, 30, 39, 50, 53] [] [])
def TL_gWait (l : List At) : Tr (List At) := T_gWait (aI l 0) (aI l 1) (aI l 2) (aI l 3) (aI l 4) (aI l 5) (aI l 6) (aI l 7) (aI l 8) (aI l 9)
theorem e_gWait (l : List At) : (call Try.prog Γ_S4 y_gWait noLoops 100 Try.f13 (mkV ish_gWait l) (mkH ish_gWait l)).bind (leafO 0 osh_gWait) = TL_gWait l := by kernel_rfl
def F_gWait : List At → Tr (List At) := TL_gWait
theorem s_gWait : SpecF Try.prog 13 (.eff (locF ish_gWait osh_gWait F_gWait)) :=
  spec_loc (sy := y_gWait) (fuel := 100) (Lp := noLoops) o_S4 mixed ⟨Try.func13, by kernel_rfl, by kernel_rfl⟩ ish_gWait osh_gWait (noLoops_ok _) (hT_ways e_gWait)
def Γ_gWait : Specs := upd Γ_S4 13 (.eff (locF ish_gWait osh_gWait F_gWait))
theorem o_gWait : SpecOK Try.prog Γ_gWait := SpecOK.upd o_S4 s_gWait

/-! ### rWait -/

def ish_rWait : FSh := ⟨[.v true [.k (.n .u64), .k (.n .u64), .k (.n .u64), .k (.n .u64), .k (.n .u64), .k (.n .u64), .k (.n .u64), .k (.n .u64)], .v false [.k (.n .i64)], .v false [.k (.n .i64)]], []⟩
def osh_rWait : FSh := ⟨[.tup [(true, [.k (.n .u64), .k (.n .u64), .k (.n .u64), .k (.n .u64), .k (.n .u64), .k (.n .u64), .k (.n .u64), .k (.n .u64)]), (false, [.k (.n .i64)])]], []⟩
def T_rWait_s0 (x0 : Int) (x1 : Int) (x2 : Int) (x3 : Int) (x4 : Int) (x5 : Int) (x6 : Int) (x7 : Int) (x8 : Int) (x9 : Int) : Tr (List At) :=
 .br 37 ((bif gate x0 x1 x2 x3 x4 x5 x6 x7 then x0 % (16 : Int) else (0 : Int)) != (0 : Int))
 (.br 41 ((bif gate x0 x1 x2 x3 x4 x5 x6 x7 then x0 % (16 : Int) else (0 : Int)) != x8)
 (.ok [(.i ((0 : Int))), (.i ((0 : Int))), (.i ((0 : Int))), (.i ((0 : Int))), (.i ((0 : Int))), (.i ((0 : Int))), (.i ((0 : Int))), (.i ((0 : Int))), (.i ((1 : Int)))])
 (.br 45 ((↑(bif gate x0 x1 x2 x3 x4 x5 x6 x7 then cnt x0 else (0 : Nat)) : Int) == (7 : Int))
 (.ok [(.i ((0 : Int))), (.i ((0 : Int))), (.i ((0 : Int))), (.i ((0 : Int))), (.i ((0 : Int))), (.i ((0 : Int))), (.i ((0 : Int))), (.i ((0 : Int))), (.i ((43 : Int)))])
 (.br 50 (decide (((0 : Nat) + bif gate x0 x1 x2 x3 x4 x5 x6 x7 then cnt x0 else (0 : Nat)) ≤ (1073741824 : Nat)))
 (.br 53 (decide (((0 : Nat) + bif gate x0 x1 x2 x3 x4 x5 x6 x7 then cnt x0 else (0 : Nat)) + (1 : Nat) ≤ (1073741824 : Nat)))
 (.br 0 (decide (((0 : Nat) + bif gate x0 x1 x2 x3 x4 x5 x6 x7 then cnt x0 else (0 : Nat)) + (1 : Nat) ≤ (9223372036854775807 : Nat)))
 (.ok [(.i (lineW x8 (((0 : Nat) + bif gate x0 x1 x2 x3 x4 x5 x6 x7 then cnt x0 else (0 : Nat)) + (1 : Nat)) (fun (k : Nat) => appG (appG (fun (_ _ : Nat) => (0 : Int)) (0 : Nat) fun (j c : Nat) => gRows x1 x2 x3 x4 x5 x6 x7 ((0 : Nat) + j) c) ((0 : Nat) + bif gate x0 x1 x2 x3 x4 x5 x6 x7 then cnt x0 else (0 : Nat)) (rowsF [[x9]]) ((0 : Nat) + k) (0 : Nat)) (0 : Nat))), (.i (lineW x8 (((0 : Nat) + bif gate x0 x1 x2 x3 x4 x5 x6 x7 then cnt x0 else (0 : Nat)) + (1 : Nat)) (fun (k : Nat) => appG (appG (fun (_ _ : Nat) => (0 : Int)) (0 : Nat) fun (j c : Nat) => gRows x1 x2 x3 x4 x5 x6 x7 ((0 : Nat) + j) c) ((0 : Nat) + bif gate x0 x1 x2 x3 x4 x5 x6 x7 then cnt x0 else (0 : Nat)) (rowsF [[x9]]) ((0 : Nat) + k) (0 : Nat)) (1 : Nat))), (.i (lineW x8 (((0 : Nat) + bif gate x0 x1 x2 x3 x4 x5 x6 x7 then cnt x0 else (0 : Nat)) + (1 : Nat)) (fun (k : Nat) => appG (appG (fun (_ _ : Nat) => (0 : Int)) (0 : Nat) fun (j c : Nat) => gRows x1 x2 x3 x4 x5 x6 x7 ((0 : Nat) + j) c) ((0 : Nat) + bif gate x0 x1 x2 x3 x4 x5 x6 x7 then cnt x0 else (0 : Nat)) (rowsF [[x9]]) ((0 : Nat) + k) (0 : Nat)) (2 : Nat))), (.i (lineW x8 (((0 : Nat) + bif gate x0 x1 x2 x3 x4 x5 x6 x7 then cnt x0 else (0 : Nat)) + (1 : Nat)) (fun (k : Nat) => appG (appG (fun (_ _ : Nat) => (0 : Int)) (0 : Nat) fun (j c : Nat) => gRows x1 x2 x3 x4 x5 x6 x7 ((0 : Nat) + j) c) ((0 : Nat) + bif gate x0 x1 x2 x3 x4 x5 x6 x7 then cnt x0 else (0 : Nat)) (rowsF [[x9]]) ((0 : Nat) + k) (0 : Nat)) (3 : Nat))), (.i (lineW x8 (((0 : Nat) + bif gate x0 x1 x2 x3 x4 x5 x6 x7 then cnt x0 else (0 : Nat)) + (1 : Nat)) (fun (k : Nat) => appG (appG (fun (_ _ : Nat) => (0 : Int)) (0 : Nat) fun (j c : Nat) => gRows x1 x2 x3 x4 x5 x6 x7 ((0 : Nat) + j) c) ((0 : Nat) + bif gate x0 x1 x2 x3 x4 x5 x6 x7 then cnt x0 else (0 : Nat)) (rowsF [[x9]]) ((0 : Nat) + k) (0 : Nat)) (4 : Nat))), (.i (lineW x8 (((0 : Nat) + bif gate x0 x1 x2 x3 x4 x5 x6 x7 then cnt x0 else (0 : Nat)) + (1 : Nat)) (fun (k : Nat) => appG (appG (fun (_ _ : Nat) => (0 : Int)) (0 : Nat) fun (j c : Nat) => gRows x1 x2 x3 x4 x5 x6 x7 ((0 : Nat) + j) c) ((0 : Nat) + bif gate x0 x1 x2 x3 x4 x5 x6 x7 then cnt x0 else (0 : Nat)) (rowsF [[x9]]) ((0 : Nat) + k) (0 : Nat)) (5 : Nat))), (.i (lineW x8 (((0 : Nat) + bif gate x0 x1 x2 x3 x4 x5 x6 x7 then cnt x0 else (0 : Nat)) + (1 : Nat)) (fun (k : Nat) => appG (appG (fun (_ _ : Nat) => (0 : Int)) (0 : Nat) fun (j c : Nat) => gRows x1 x2 x3 x4 x5 x6 x7 ((0 : Nat) + j) c) ((0 : Nat) + bif gate x0 x1 x2 x3 x4 x5 x6 x7 then cnt x0 else (0 : Nat)) (rowsF [[x9]]) ((0 : Nat) + k) (0 : Nat)) (6 : Nat))), (.i (lineW x8 (((0 : Nat) + bif gate x0 x1 x2 x3 x4 x5 x6 x7 then cnt x0 else (0 : Nat)) + (1 : Nat)) (fun (k : Nat) => appG (appG (fun (_ _ : Nat) => (0 : Int)) (0 : Nat) fun (j c : Nat) => gRows x1 x2 x3 x4 x5 x6 x7 ((0 : Nat) + j) c) ((0 : Nat) + bif gate x0 x1 x2 x3 x4 x5 x6 x7 then cnt x0 else (0 : Nat)) (rowsF [[x9]]) ((0 : Nat) + k) (0 : Nat)) (7 : Nat))), (.i (lineE x8 (((0 : Nat) + bif gate x0 x1 x2 x3 x4 x5 x6 x7 then cnt x0 else (0 : Nat)) + (1 : Nat)) fun (k : Nat) => appG (appG (fun (_ _ : Nat) => (0 : Int)) (0 : Nat) fun (j c : Nat) => gRows x1 x2 x3 x4 x5 x6 x7 ((0 : Nat) + j) c) ((0 : Nat) + bif gate x0 x1 x2 x3 x4 x5 x6 x7 then cnt x0 else (0 : Nat)) (rowsF [[x9]]) ((0 : Nat) + k) (0 : Nat)))])
 (.no))
 (.no))
 (.no))))
 (.br 45 ((↑(bif gate x0 x1 x2 x3 x4 x5 x6 x7 then cnt x0 else (0 : Nat)) : Int) == (7 : Int))
 (.ok [(.i ((0 : Int))), (.i ((0 : Int))), (.i ((0 : Int))), (.i ((0 : Int))), (.i ((0 : Int))), (.i ((0 : Int))), (.i ((0 : Int))), (.i ((0 : Int))), (.i ((43 : Int)))])
 (.br 50 (decide (((0 : Nat) + bif gate x0 x1 x2 x3 x4 x5 x6 x7 then cnt x0 else (0 : Nat)) ≤ (1073741824 : Nat)))
 (.br 53 (decide (((0 : Nat) + bif gate x0 x1 x2 x3 x4 x5 x6 x7 then cnt x0 else (0 : Nat)) + (1 : Nat) ≤ (1073741824 : Nat)))
 (.br 0 (decide (((0 : Nat) + bif gate x0 x1 x2 x3 x4 x5 x6 x7 then cnt x0 else (0 : Nat)) + (1 : Nat) ≤ (9223372036854775807 : Nat)))
 (.ok [(.i (lineW x8 (((0 : Nat) + bif gate x0 x1 x2 x3 x4 x5 x6 x7 then cnt x0 else (0 : Nat)) + (1 : Nat)) (fun (k : Nat) => appG (appG (fun (_ _ : Nat) => (0 : Int)) (0 : Nat) fun (j c : Nat) => gRows x1 x2 x3 x4 x5 x6 x7 ((0 : Nat) + j) c) ((0 : Nat) + bif gate x0 x1 x2 x3 x4 x5 x6 x7 then cnt x0 else (0 : Nat)) (rowsF [[x9]]) ((0 : Nat) + k) (0 : Nat)) (0 : Nat))), (.i (lineW x8 (((0 : Nat) + bif gate x0 x1 x2 x3 x4 x5 x6 x7 then cnt x0 else (0 : Nat)) + (1 : Nat)) (fun (k : Nat) => appG (appG (fun (_ _ : Nat) => (0 : Int)) (0 : Nat) fun (j c : Nat) => gRows x1 x2 x3 x4 x5 x6 x7 ((0 : Nat) + j) c) ((0 : Nat) + bif gate x0 x1 x2 x3 x4 x5 x6 x7 then cnt x0 else (0 : Nat)) (rowsF [[x9]]) ((0 : Nat) + k) (0 : Nat)) (1 : Nat))), (.i (lineW x8 (((0 : Nat) + bif gate x0 x1 x2 x3 x4 x5 x6 x7 then cnt x0 else (0 : Nat)) + (1 : Nat)) (fun (k : Nat) => appG (appG (fun (_ _ : Nat) => (0 : Int)) (0 : Nat) fun (j c : Nat) => gRows x1 x2 x3 x4 x5 x6 x7 ((0 : Nat) + j) c) ((0 : Nat) + bif gate x0 x1 x2 x3 x4 x5 x6 x7 then cnt x0 else (0 : Nat)) (rowsF [[x9]]) ((0 : Nat) + k) (0 : Nat)) (2 : Nat))), (.i (lineW x8 (((0 : Nat) + bif gate x0 x1 x2 x3 x4 x5 x6 x7 then cnt x0 else (0 : Nat)) + (1 : Nat)) (fun (k : Nat) => appG (appG (fun (_ _ : Nat) => (0 : Int)) (0 : Nat) fun (j c : Nat) => gRows x1 x2 x3 x4 x5 x6 x7 ((0 : Nat) + j) c) ((0 : Nat) + bif gate x0 x1 x2 x3 x4 x5 x6 x7 then cnt x0 else (0 : Nat)) (rowsF [[x9]]) ((0 : Nat) + k) (0 : Nat)) (3 : Nat))), (.i (lineW x8 (((0 : Nat) + bif gate x0 x1 x2 x3 x4 x5 x6 x7 then cnt x0 else (0 : Nat)) + (1 : Nat)) (fun (k : Nat) => appG (appG (fun (_ _ : Nat) => (0 : Int)) (0 : Nat) fun (j c : Nat) => gRows x1 x2 x3 x4 x5 x6 x7 ((0 : Nat) + j) c) ((0 : Nat) + bif gate x0 x1 x2 x3 x4 x5 x6 x7 then cnt x0 else (0 : Nat)) (rowsF [[x9]]) ((0 : Nat) + k) (0 : Nat)) (4 : Nat))), (.i (lineW x8 (((0 : Nat) + bif gate x0 x1 x2 x3 x4 x5 x6 x7 then cnt x0 else (0 : Nat)) + (1 : Nat)) (fun (k : Nat) => appG (appG (fun (_ _ : Nat) => (0 : Int)) (0 : Nat) fun (j c : Nat) => gRows x1 x2 x3 x4 x5 x6 x7 ((0 : Nat) + j) c) ((0 : Nat) + bif gate x0 x1 x2 x3 x4 x5 x6 x7 then cnt x0 else (0 : Nat)) (rowsF [[x9]]) ((0 : Nat) + k) (0 : Nat)) (5 : Nat))), (.i (lineW x8 (((0 : Nat) + bif gate x0 x1 x2 x3 x4 x5 x6 x7 then cnt x0 else (0 : Nat)) + (1 : Nat)) (fun (k : Nat) => appG (appG (fun (_ _ : Nat) => (0 : Int)) (0 : Nat) fun (j c : Nat) => gRows x1 x2 x3 x4 x5 x6 x7 ((0 : Nat) + j) c) ((0 : Nat) + bif gate x0 x1 x2 x3 x4 x5 x6 x7 then cnt x0 else (0 : Nat)) (rowsF [[x9]]) ((0 : Nat) + k) (0 : Nat)) (6 : Nat))), (.i (lineW x8 (((0 : Nat) + bif gate x0 x1 x2 x3 x4 x5 x6 x7 then cnt x0 else (0 : Nat)) + (1 : Nat)) (fun (k : Nat) => appG (appG (fun (_ _ : Nat) => (0 : Int)) (0 : Nat) fun (j c : Nat) => gRows x1 x2 x3 x4 x5 x6 x7 ((0 : Nat) + j) c) ((0 : Nat) + bif gate x0 x1 x2 x3 x4 x5 x6 x7 then cnt x0 else (0 : Nat)) (rowsF [[x9]]) ((0 : Nat) + k) (0 : Nat)) (7 : Nat))), (.i (lineE x8 (((0 : Nat) + bif gate x0 x1 x2 x3 x4 x5 x6 x7 then cnt x0 else (0 : Nat)) + (1 : Nat)) fun (k : Nat) => appG (appG (fun (_ _ : Nat) => (0 : Int)) (0 : Nat) fun (j c : Nat) => gRows x1 x2 x3 x4 x5 x6 x7 ((0 : Nat) + j) c) ((0 : Nat) + bif gate x0 x1 x2 x3 x4 x5 x6 x7 then cnt x0 else (0 : Nat)) (rowsF [[x9]]) ((0 : Nat) + k) (0 : Nat)))])
 (.no))
 (.no))
 (.no)))
def T_rWait_s1 (x0 : Int) (x1 : Int) (x2 : Int) (x3 : Int) (x4 : Int) (x5 : Int) (x6 : Int) (x7 : Int) (x8 : Int) (x9 : Int) : Tr (List At) :=
 .br 33 (!gate x0 x1 x2 x3 x4 x5 x6 x7)
 (.ok [(.i ((0 : Int))), (.i ((0 : Int))), (.i ((0 : Int))), (.i ((0 : Int))), (.i ((0 : Int))), (.i ((0 : Int))), (.i ((0 : Int))), (.i ((0 : Int))), (.i ((41 : Int)))])
 (T_rWait_s0 x0 x1 x2 x3 x4 x5 x6 x7 x8 x9)
def T_rWait_s2 (x0 : Int) (x1 : Int) (x2 : Int) (x3 : Int) (x4 : Int) (x5 : Int) (x6 : Int) (x7 : Int) (x8 : Int) (x9 : Int) : Tr (List At) :=
 .br 0 (decide (Rng x0 x1 x2 x3 x4 x5 x6 x7))
 (T_rWait_s1 x0 x1 x2 x3 x4 x5 x6 x7 x8 x9)
 (.no)
def T_rWait_s3 (x0 : Int) (x1 : Int) (x2 : Int) (x3 : Int) (x4 : Int) (x5 : Int) (x6 : Int) (x7 : Int) (x8 : Int) (x9 : Int) : Tr (List At) :=
 .br 24 (decide (x9 ≥ (49 : Int)))
 (.ok [(.i ((0 : Int))), (.i ((0 : Int))), (.i ((0 : Int))), (.i ((0 : Int))), (.i ((0 : Int))), (.i ((0 : Int))), (.i ((0 : Int))), (.i ((0 : Int))), (.i ((1 : Int)))])
 (T_rWait_s2 x0 x1 x2 x3 x4 x5 x6 x7 x8 x9)
def T_rWait_s4 (x0 : Int) (x1 : Int) (x2 : Int) (x3 : Int) (x4 : Int) (x5 : Int) (x6 : Int) (x7 : Int) (x8 : Int) (x9 : Int) : Tr (List At) :=
 .br 21 (decide (x9 < (0 : Int)))
 (.ok [(.i ((0 : Int))), (.i ((0 : Int))), (.i ((0 : Int))), (.i ((0 : Int))), (.i ((0 : Int))), (.i ((0 : Int))), (.i ((0 : Int))), (.i ((0 : Int))), (.i ((1 : Int)))])
 (T_rWait_s3 x0 x1 x2 x3 x4 x5 x6 x7 x8 x9)
def T_rWait (x0 : Int) (x1 : Int) (x2 : Int) (x3 : Int) (x4 : Int) (x5 : Int) (x6 : Int) (x7 : Int) (x8 : Int) (x9 : Int) : Tr (List At) :=
 .br 13 (x8 != (3 : Int))
 (.br 17 (x8 != (4 : Int))
 (.ok [(.i ((0 : Int))), (.i ((0 : Int))), (.i ((0 : Int))), (.i ((0 : Int))), (.i ((0 : Int))), (.i ((0 : Int))), (.i ((0 : Int))), (.i ((0 : Int))), (.i ((1 : Int)))])
 (T_rWait_s4 x0 x1 x2 x3 x4 x5 x6 x7 x8 x9))
 (T_rWait_s4 x0 x1 x2 x3 x4 x5 x6 x7 x8 x9)
def y_rWait : Nat → Option Nat := (syOf3 [13, 17, 21, 24, 33, 37, 41, 45, 50, 53] [] [])
def TL_rWait (l : List At) : Tr (List At) := T_rWait (aI l 0) (aI l 1) (aI l 2) (aI l 3) (aI l 4) (aI l 5) (aI l 6) (aI l 7) (aI l 8) (aI l 9)
theorem e_rWait (l : List At) : (call Try.prog Γ_gWait y_rWait noLoops 100 Try.f14 (mkV ish_rWait l) (mkH ish_rWait l)).bind (leafO 0 osh_rWait) = TL_rWait l := by kernel_rfl
def F_rWait : List At → Tr (List At) := TL_rWait
theorem s_rWait : SpecF Try.prog 14 (.eff (locF ish_rWait osh_rWait F_rWait)) :=
  spec_loc (sy := y_rWait) (fuel := 100) (Lp := noLoops) o_gWait mixed ⟨Try.func14, by kernel_rfl, by kernel_rfl⟩ ish_rWait osh_rWait (noLoops_ok _) (hT_ways e_rWait)
def Γ_rWait : Specs := upd Γ_gWait 14 (.eff (locF ish_rWait osh_rWait F_rWait))
theorem o_rWait : SpecOK Try.prog Γ_rWait := SpecOK.upd o_gWait s_rWait

/-! ### gMeet -/

def ish_gMeet : FSh := ⟨[.v true [.k (.n .u64), .k (.n .u64), .k (.n .u64), .k (.n .u64), .k (.n .u64), .k (.n .u64), .k (.n .u64), .k (.n .u64)], .v false [.k (.n .i64)]], []⟩
def osh_gMeet : FSh := ⟨[.tup [(false, [.k (.n .i64)]), (true, [.k (.n .u64), .k (.n .u64), .k (.n .u64), .k (.n .u64), .k (.n .u64), .k (.n .u64), .k (.n .u64), .k (.n .u64)]), (false, [.k .b])]], []⟩
def T_gMeet (x0 : Int) (x1 : Int) (x2 : Int) (x3 : Int) (x4 : Int) (x5 : Int) (x6 : Int) (x7 : Int) (x8 : Int) : Tr (List At) :=
 .br 0 (decide (Rng x0 x1 x2 x3 x4 x5 x6 x7))
 (.br 17 (!gate x0 x1 x2 x3 x4 x5 x6 x7)
 (.ok [(.i ((0 : Int))), (.i ((0 : Int))), (.i ((0 : Int))), (.i ((0 : Int))), (.i ((0 : Int))), (.i ((0 : Int))), (.i ((0 : Int))), (.i ((0 : Int))), (.i ((0 : Int))), (.b (false))])
 (.br 22 (!r_waits_0 x8)
 (.ok [(.i ((0 : Int))), (.i ((0 : Int))), (.i ((0 : Int))), (.i ((0 : Int))), (.i ((0 : Int))), (.i ((0 : Int))), (.i ((0 : Int))), (.i ((0 : Int))), (.i ((0 : Int))), (.b (false))])
 (.br 27 (!r_waits_0 (bif gate x0 x1 x2 x3 x4 x5 x6 x7 then x0 % (16 : Int) else (0 : Int)))
 (.ok [(.i ((0 : Int))), (.i ((0 : Int))), (.i ((0 : Int))), (.i ((0 : Int))), (.i ((0 : Int))), (.i ((0 : Int))), (.i ((0 : Int))), (.i ((0 : Int))), (.i ((0 : Int))), (.b (false))])
 (.br 31 ((bif gate x0 x1 x2 x3 x4 x5 x6 x7 then x0 % (16 : Int) else (0 : Int)) == x8)
 (.ok [(.i ((0 : Int))), (.i ((0 : Int))), (.i ((0 : Int))), (.i ((0 : Int))), (.i ((0 : Int))), (.i ((0 : Int))), (.i ((0 : Int))), (.i ((0 : Int))), (.i ((0 : Int))), (.b (false))])
 (.br 35 ((↑(bif gate x0 x1 x2 x3 x4 x5 x6 x7 then cnt x0 else (0 : Nat)) : Int) == (1 : Int))
 (.br 37 (within (0 : Int) (bif gate x0 x1 x2 x3 x4 x5 x6 x7 then cnt x0 else (0 : Nat)))
 (.ok [(.i (gRows x1 x2 x3 x4 x5 x6 x7 (0 : Nat) (0 : Nat))), (.i ((0 : Int))), (.i ((0 : Int))), (.i ((0 : Int))), (.i ((0 : Int))), (.i ((0 : Int))), (.i ((0 : Int))), (.i ((0 : Int))), (.i ((0 : Int))), (.b (true))])
 (.no))
 (.br 43 (true && decide ((1 : Int) ≤ (↑(bif gate x0 x1 x2 x3 x4 x5 x6 x7 then cnt x0 else (0 : Nat)) : Int)))
 (.br 0 (decide (Int.toNat (↑(bif gate x0 x1 x2 x3 x4 x5 x6 x7 then cnt x0 else (0 : Nat)) : Int) - (1 : Nat) ≤ (9223372036854775807 : Nat)))
 (.br 48 (within (0 : Int) (bif gate x0 x1 x2 x3 x4 x5 x6 x7 then cnt x0 else (0 : Nat)))
 (.ok [(.i (gRows x1 x2 x3 x4 x5 x6 x7 (0 : Nat) (0 : Nat))), (.i (lineW (bif gate x0 x1 x2 x3 x4 x5 x6 x7 then x0 % (16 : Int) else (0 : Int)) (Int.toNat (↑(bif gate x0 x1 x2 x3 x4 x5 x6 x7 then cnt x0 else (0 : Nat)) : Int) - (1 : Nat)) (fun (k : Nat) => gRows x1 x2 x3 x4 x5 x6 x7 ((1 : Nat) + k) (0 : Nat)) (0 : Nat))), (.i (lineW (bif gate x0 x1 x2 x3 x4 x5 x6 x7 then x0 % (16 : Int) else (0 : Int)) (Int.toNat (↑(bif gate x0 x1 x2 x3 x4 x5 x6 x7 then cnt x0 else (0 : Nat)) : Int) - (1 : Nat)) (fun (k : Nat) => gRows x1 x2 x3 x4 x5 x6 x7 ((1 : Nat) + k) (0 : Nat)) (1 : Nat))), (.i (lineW (bif gate x0 x1 x2 x3 x4 x5 x6 x7 then x0 % (16 : Int) else (0 : Int)) (Int.toNat (↑(bif gate x0 x1 x2 x3 x4 x5 x6 x7 then cnt x0 else (0 : Nat)) : Int) - (1 : Nat)) (fun (k : Nat) => gRows x1 x2 x3 x4 x5 x6 x7 ((1 : Nat) + k) (0 : Nat)) (2 : Nat))), (.i (lineW (bif gate x0 x1 x2 x3 x4 x5 x6 x7 then x0 % (16 : Int) else (0 : Int)) (Int.toNat (↑(bif gate x0 x1 x2 x3 x4 x5 x6 x7 then cnt x0 else (0 : Nat)) : Int) - (1 : Nat)) (fun (k : Nat) => gRows x1 x2 x3 x4 x5 x6 x7 ((1 : Nat) + k) (0 : Nat)) (3 : Nat))), (.i (lineW (bif gate x0 x1 x2 x3 x4 x5 x6 x7 then x0 % (16 : Int) else (0 : Int)) (Int.toNat (↑(bif gate x0 x1 x2 x3 x4 x5 x6 x7 then cnt x0 else (0 : Nat)) : Int) - (1 : Nat)) (fun (k : Nat) => gRows x1 x2 x3 x4 x5 x6 x7 ((1 : Nat) + k) (0 : Nat)) (4 : Nat))), (.i (lineW (bif gate x0 x1 x2 x3 x4 x5 x6 x7 then x0 % (16 : Int) else (0 : Int)) (Int.toNat (↑(bif gate x0 x1 x2 x3 x4 x5 x6 x7 then cnt x0 else (0 : Nat)) : Int) - (1 : Nat)) (fun (k : Nat) => gRows x1 x2 x3 x4 x5 x6 x7 ((1 : Nat) + k) (0 : Nat)) (5 : Nat))), (.i (lineW (bif gate x0 x1 x2 x3 x4 x5 x6 x7 then x0 % (16 : Int) else (0 : Int)) (Int.toNat (↑(bif gate x0 x1 x2 x3 x4 x5 x6 x7 then cnt x0 else (0 : Nat)) : Int) - (1 : Nat)) (fun (k : Nat) => gRows x1 x2 x3 x4 x5 x6 x7 ((1 : Nat) + k) (0 : Nat)) (6 : Nat))), (.i (lineW (bif gate x0 x1 x2 x3 x4 x5 x6 x7 then x0 % (16 : Int) else (0 : Int)) (Int.toNat (↑(bif gate x0 x1 x2 x3 x4 x5 x6 x7 then cnt x0 else (0 : Nat)) : Int) - (1 : Nat)) (fun (k : Nat) => gRows x1 x2 x3 x4 x5 x6 x7 ((1 : Nat) + k) (0 : Nat)) (7 : Nat))), (.b (true))])
 (.no))
 (.no))
 (.no)))))))
 (.no)
def y_gMeet : Nat → Option Nat := (syOf3 [17, 22, 27, 31, 35, 37, 43, 48] [] [])
def TL_gMeet (l : List At) : Tr (List At) := T_gMeet (aI l 0) (aI l 1) (aI l 2) (aI l 3) (aI l 4) (aI l 5) (aI l 6) (aI l 7) (aI l 8)
theorem e_gMeet (l : List At) : (call Try.prog Γ_rWait y_gMeet noLoops 100 Try.f15 (mkV ish_gMeet l) (mkH ish_gMeet l)).bind (leafO 0 osh_gMeet) = TL_gMeet l := by kernel_rfl
def F_gMeet : List At → Tr (List At) := TL_gMeet
theorem s_gMeet : SpecF Try.prog 15 (.eff (locF ish_gMeet osh_gMeet F_gMeet)) :=
  spec_loc (sy := y_gMeet) (fuel := 100) (Lp := noLoops) o_rWait mixed ⟨Try.func15, by kernel_rfl, by kernel_rfl⟩ ish_gMeet osh_gMeet (noLoops_ok _) (hT_ways e_gMeet)
def Γ_gMeet : Specs := upd Γ_rWait 15 (.eff (locF ish_gMeet osh_gMeet F_gMeet))
theorem o_gMeet : SpecOK Try.prog Γ_gMeet := SpecOK.upd o_rWait s_gMeet

/-! ### rMeet -/

def ish_rMeet : FSh := ⟨[.v true [.k (.n .u64), .k (.n .u64), .k (.n .u64), .k (.n .u64), .k (.n .u64), .k (.n .u64), .k (.n .u64), .k (.n .u64)], .v false [.k (.n .i64)]], []⟩
def osh_rMeet : FSh := ⟨[.tup [(false, [.k (.n .i64)]), (true, [.k (.n .u64), .k (.n .u64), .k (.n .u64), .k (.n .u64), .k (.n .u64), .k (.n .u64), .k (.n .u64), .k (.n .u64)]), (false, [.k .b])]], []⟩
def T_rMeet (x0 : Int) (x1 : Int) (x2 : Int) (x3 : Int) (x4 : Int) (x5 : Int) (x6 : Int) (x7 : Int) (x8 : Int) : Tr (List At) :=
 .br 0 (decide (Rng x0 x1 x2 x3 x4 x5 x6 x7))
 (.br 37 (bif !gate x0 x1 x2 x3 x4 x5 x6 x7 then true else bif x8 == (3 : Int) then bif !(bif gate x0 x1 x2 x3 x4 x5 x6 x7 then x0 % (16 : Int) else (0 : Int)) == (4 : Int) then bif x8 == (4 : Int) then !(bif gate x0 x1 x2 x3 x4 x5 x6 x7 then x0 % (16 : Int) else (0 : Int)) == (3 : Int) else true else false else bif x8 == (4 : Int) then !(bif gate x0 x1 x2 x3 x4 x5 x6 x7 then x0 % (16 : Int) else (0 : Int)) == (3 : Int) else true)
 (.ok [(.i ((0 : Int))), (.i ((0 : Int))), (.i ((0 : Int))), (.i ((0 : Int))), (.i ((0 : Int))), (.i ((0 : Int))), (.i ((0 : Int))), (.i ((0 : Int))), (.i ((0 : Int))), (.b (false))])
 (.br 41 ((↑(bif gate x0 x1 x2 x3 x4 x5 x6 x7 then cnt x0 else (0 : Nat)) : Int) == (1 : Int))
 (.br 45 (true && decide ((1 : Int) ≤ (↑(bif gate x0 x1 x2 x3 x4 x5 x6 x7 then cnt x0 else (0 : Nat)) : Int)))
 (.br 0 (decide (Int.toNat (↑(bif gate x0 x1 x2 x3 x4 x5 x6 x7 then cnt x0 else (0 : Nat)) : Int) - (1 : Nat) ≤ (9223372036854775807 : Nat)))
 (.br 50 (within (0 : Int) (bif gate x0 x1 x2 x3 x4 x5 x6 x7 then cnt x0 else (0 : Nat)))
 (.ok [(.i (gRows x1 x2 x3 x4 x5 x6 x7 (0 : Nat) (0 : Nat))), (.i (lineW (0 : Int) (Int.toNat (↑(bif gate x0 x1 x2 x3 x4 x5 x6 x7 then cnt x0 else (0 : Nat)) : Int) - (1 : Nat)) (fun (k : Nat) => gRows x1 x2 x3 x4 x5 x6 x7 ((1 : Nat) + k) (0 : Nat)) (0 : Nat))), (.i (lineW (0 : Int) (Int.toNat (↑(bif gate x0 x1 x2 x3 x4 x5 x6 x7 then cnt x0 else (0 : Nat)) : Int) - (1 : Nat)) (fun (k : Nat) => gRows x1 x2 x3 x4 x5 x6 x7 ((1 : Nat) + k) (0 : Nat)) (1 : Nat))), (.i (lineW (0 : Int) (Int.toNat (↑(bif gate x0 x1 x2 x3 x4 x5 x6 x7 then cnt x0 else (0 : Nat)) : Int) - (1 : Nat)) (fun (k : Nat) => gRows x1 x2 x3 x4 x5 x6 x7 ((1 : Nat) + k) (0 : Nat)) (2 : Nat))), (.i (lineW (0 : Int) (Int.toNat (↑(bif gate x0 x1 x2 x3 x4 x5 x6 x7 then cnt x0 else (0 : Nat)) : Int) - (1 : Nat)) (fun (k : Nat) => gRows x1 x2 x3 x4 x5 x6 x7 ((1 : Nat) + k) (0 : Nat)) (3 : Nat))), (.i (lineW (0 : Int) (Int.toNat (↑(bif gate x0 x1 x2 x3 x4 x5 x6 x7 then cnt x0 else (0 : Nat)) : Int) - (1 : Nat)) (fun (k : Nat) => gRows x1 x2 x3 x4 x5 x6 x7 ((1 : Nat) + k) (0 : Nat)) (4 : Nat))), (.i (lineW (0 : Int) (Int.toNat (↑(bif gate x0 x1 x2 x3 x4 x5 x6 x7 then cnt x0 else (0 : Nat)) : Int) - (1 : Nat)) (fun (k : Nat) => gRows x1 x2 x3 x4 x5 x6 x7 ((1 : Nat) + k) (0 : Nat)) (5 : Nat))), (.i (lineW (0 : Int) (Int.toNat (↑(bif gate x0 x1 x2 x3 x4 x5 x6 x7 then cnt x0 else (0 : Nat)) : Int) - (1 : Nat)) (fun (k : Nat) => gRows x1 x2 x3 x4 x5 x6 x7 ((1 : Nat) + k) (0 : Nat)) (6 : Nat))), (.i (lineW (0 : Int) (Int.toNat (↑(bif gate x0 x1 x2 x3 x4 x5 x6 x7 then cnt x0 else (0 : Nat)) : Int) - (1 : Nat)) (fun (k : Nat) => gRows x1 x2 x3 x4 x5 x6 x7 ((1 : Nat) + k) (0 : Nat)) (7 : Nat))), (.b (true))])
 (.no))
 (.no))
 (.no))
 (.br 45 (true && decide ((1 : Int) ≤ (↑(bif gate x0 x1 x2 x3 x4 x5 x6 x7 then cnt x0 else (0 : Nat)) : Int)))
 (.br 0 (decide (Int.toNat (↑(bif gate x0 x1 x2 x3 x4 x5 x6 x7 then cnt x0 else (0 : Nat)) : Int) - (1 : Nat) ≤ (9223372036854775807 : Nat)))
 (.br 50 (within (0 : Int) (bif gate x0 x1 x2 x3 x4 x5 x6 x7 then cnt x0 else (0 : Nat)))
 (.ok [(.i (gRows x1 x2 x3 x4 x5 x6 x7 (0 : Nat) (0 : Nat))), (.i (lineW (bif gate x0 x1 x2 x3 x4 x5 x6 x7 then x0 % (16 : Int) else (0 : Int)) (Int.toNat (↑(bif gate x0 x1 x2 x3 x4 x5 x6 x7 then cnt x0 else (0 : Nat)) : Int) - (1 : Nat)) (fun (k : Nat) => gRows x1 x2 x3 x4 x5 x6 x7 ((1 : Nat) + k) (0 : Nat)) (0 : Nat))), (.i (lineW (bif gate x0 x1 x2 x3 x4 x5 x6 x7 then x0 % (16 : Int) else (0 : Int)) (Int.toNat (↑(bif gate x0 x1 x2 x3 x4 x5 x6 x7 then cnt x0 else (0 : Nat)) : Int) - (1 : Nat)) (fun (k : Nat) => gRows x1 x2 x3 x4 x5 x6 x7 ((1 : Nat) + k) (0 : Nat)) (1 : Nat))), (.i (lineW (bif gate x0 x1 x2 x3 x4 x5 x6 x7 then x0 % (16 : Int) else (0 : Int)) (Int.toNat (↑(bif gate x0 x1 x2 x3 x4 x5 x6 x7 then cnt x0 else (0 : Nat)) : Int) - (1 : Nat)) (fun (k : Nat) => gRows x1 x2 x3 x4 x5 x6 x7 ((1 : Nat) + k) (0 : Nat)) (2 : Nat))), (.i (lineW (bif gate x0 x1 x2 x3 x4 x5 x6 x7 then x0 % (16 : Int) else (0 : Int)) (Int.toNat (↑(bif gate x0 x1 x2 x3 x4 x5 x6 x7 then cnt x0 else (0 : Nat)) : Int) - (1 : Nat)) (fun (k : Nat) => gRows x1 x2 x3 x4 x5 x6 x7 ((1 : Nat) + k) (0 : Nat)) (3 : Nat))), (.i (lineW (bif gate x0 x1 x2 x3 x4 x5 x6 x7 then x0 % (16 : Int) else (0 : Int)) (Int.toNat (↑(bif gate x0 x1 x2 x3 x4 x5 x6 x7 then cnt x0 else (0 : Nat)) : Int) - (1 : Nat)) (fun (k : Nat) => gRows x1 x2 x3 x4 x5 x6 x7 ((1 : Nat) + k) (0 : Nat)) (4 : Nat))), (.i (lineW (bif gate x0 x1 x2 x3 x4 x5 x6 x7 then x0 % (16 : Int) else (0 : Int)) (Int.toNat (↑(bif gate x0 x1 x2 x3 x4 x5 x6 x7 then cnt x0 else (0 : Nat)) : Int) - (1 : Nat)) (fun (k : Nat) => gRows x1 x2 x3 x4 x5 x6 x7 ((1 : Nat) + k) (0 : Nat)) (5 : Nat))), (.i (lineW (bif gate x0 x1 x2 x3 x4 x5 x6 x7 then x0 % (16 : Int) else (0 : Int)) (Int.toNat (↑(bif gate x0 x1 x2 x3 x4 x5 x6 x7 then cnt x0 else (0 : Nat)) : Int) - (1 : Nat)) (fun (k : Nat) => gRows x1 x2 x3 x4 x5 x6 x7 ((1 : Nat) + k) (0 : Nat)) (6 : Nat))), (.i (lineW (bif gate x0 x1 x2 x3 x4 x5 x6 x7 then x0 % (16 : Int) else (0 : Int)) (Int.toNat (↑(bif gate x0 x1 x2 x3 x4 x5 x6 x7 then cnt x0 else (0 : Nat)) : Int) - (1 : Nat)) (fun (k : Nat) => gRows x1 x2 x3 x4 x5 x6 x7 ((1 : Nat) + k) (0 : Nat)) (7 : Nat))), (.b (true))])
 (.no))
 (.no))
 (.no))))
 (.no)
def y_rMeet : Nat → Option Nat := (syJ [1000002] (syOf3 [20, 23, 28, 31, 37, 41, 45, 50] [] []))
def TL_rMeet (l : List At) : Tr (List At) := T_rMeet (aI l 0) (aI l 1) (aI l 2) (aI l 3) (aI l 4) (aI l 5) (aI l 6) (aI l 7) (aI l 8)
theorem e_rMeet (l : List At) : (call Try.prog Γ_gMeet y_rMeet noLoops 100 Try.f16 (mkV ish_rMeet l) (mkH ish_rMeet l)).bind (leafO 0 osh_rMeet) = TL_rMeet l := by kernel_rfl
def F_rMeet : List At → Tr (List At) := TL_rMeet
theorem s_rMeet : SpecF Try.prog 16 (.eff (locF ish_rMeet osh_rMeet F_rMeet)) :=
  spec_loc (sy := y_rMeet) (fuel := 100) (Lp := noLoops) o_gMeet mixed ⟨Try.func16, by kernel_rfl, by kernel_rfl⟩ ish_rMeet osh_rMeet (noLoops_ok _) (hT_ways e_rMeet)
def Γ_rMeet : Specs := upd Γ_gMeet 16 (.eff (locF ish_rMeet osh_rMeet F_rMeet))
theorem o_rMeet : SpecOK Try.prog Γ_rMeet := SpecOK.upd o_gMeet s_rMeet

end Go.Proofs.Ytepdekambalmhaa.G
end

/-
  What the functions that let somebody wait, and tell whom one meets, come to, in few words.
-/
section
namespace Go.Proofs.Ytepdekambalmhaa.G
open Go Go.AM Go.Proofs

/-- Those who wait, and one more. -/
def addG (x0 x1 x2 x3 x4 x5 x6 x7 x9 : Int) (k : Nat) : Int := if k < cnt x0 then wds x1 x2 x3 x4 x5 x6 x7 k else x9
def waitC (x0 x1 x2 x3 x4 x5 x6 x7 x8 x9 : Int) : Int :=
  if ¬ ((x8 = 3 ∨ x8 = 4) ∧ 0 ≤ x9 ∧ x9 < 49) then 1 else bif !gate x0 x1 x2 x3 x4 x5 x6 x7 then 41 else if x0 % 16 ≠ 0 ∧ x0 % 16 ≠ x8 then 1 else if cnt x0 = 7 then 43 else 0
def waitW (x0 x1 x2 x3 x4 x5 x6 x7 x8 x9 : Int) (j : Nat) : Int := if waitC x0 x1 x2 x3 x4 x5 x6 x7 x8 x9 = 0 then lineC x8 (cnt x0 + 1) (addG x0 x1 x2 x3 x4 x5 x6 x7 x9) j else 0
def F2_Wait (l : List At) : Tr (List At) := .br 0 (decide (Rng (aI l 0) (aI l 1) (aI l 2) (aI l 3) (aI l 4) (aI l 5) (aI l 6) (aI l 7))) (.ok [.i (waitW (aI l 0) (aI l 1) (aI l 2) (aI l 3) (aI l 4) (aI l 5) (aI l 6) (aI l 7) (aI l 8) (aI l 9) 0), .i (waitW (aI l 0) (aI l 1) (aI l 2) (aI l 3) (aI l 4) (aI l 5) (aI l 6) (aI l 7) (aI l 8) (aI l 9) 1), .i (waitW (aI l 0) (aI l 1) (aI l 2) (aI l 3) (aI l 4) (aI l 5) (aI l 6) (aI l 7) (aI l 8) (aI l 9) 2), .i (waitW (aI l 0) (aI l 1) (aI l 2) (aI l 3) (aI l 4) (aI l 5) (aI l 6) (aI l 7) (aI l 8) (aI l 9) 3), .i (waitW (aI l 0) (aI l 1) (aI l 2) (aI l 3) (aI l 4) (aI l 5) (aI l 6) (aI l 7) (aI l 8) (aI l 9) 4), .i (waitW (aI l 0) (aI l 1) (aI l 2) (aI l 3) (aI l 4) (aI l 5) (aI l 6) (aI l 7) (aI l 8) (aI l 9) 5), .i (waitW (aI l 0) (aI l 1) (aI l 2) (aI l 3) (aI l 4) (aI l 5) (aI l 6) (aI l 7) (aI l 8) (aI l 9) 6), .i (waitW (aI l 0) (aI l 1) (aI l 2) (aI l 3) (aI l 4) (aI l 5) (aI l 6) (aI l 7) (aI l 8) (aI l 9) 7), .i (waitC (aI l 0) (aI l 1) (aI l 2) (aI l 3) (aI l 4) (aI l 5) (aI l 6) (aI l 7) (aI l 8) (aI l 9))]) .no

def meetB (x0 x1 x2 x3 x4 x5 x6 x7 x8 : Int) : Bool := gate x0 x1 x2 x3 x4 x5 x6 x7 && decide ((x8 = 3 ∨ x8 = 4) ∧ (x0 % 16 = 3 ∨ x0 % 16 = 4) ∧ x0 % 16 ≠ x8)
def meetI (x0 x1 x2 x3 x4 x5 x6 x7 x8 : Int) : Int := bif meetB x0 x1 x2 x3 x4 x5 x6 x7 x8 then x1 else 0
def meetW (x0 x1 x2 x3 x4 x5 x6 x7 x8 : Int) (j : Nat) : Int := bif meetB x0 x1 x2 x3 x4 x5 x6 x7 x8 then (if cnt x0 = 1 then 0 else lineC (x0 % 16) (cnt x0 - 1) (fun k => wds x1 x2 x3 x4 x5 x6 x7 (k + 1)) j) else 0
def F2_Meet (l : List At) : Tr (List At) := .br 0 (decide (Rng (aI l 0) (aI l 1) (aI l 2) (aI l 3) (aI l 4) (aI l 5) (aI l 6) (aI l 7))) (.ok [.i (meetI (aI l 0) (aI l 1) (aI l 2) (aI l 3) (aI l 4) (aI l 5) (aI l 6) (aI l 7) (aI l 8)), .i (meetW (aI l 0) (aI l 1) (aI l 2) (aI l 3) (aI l 4) (aI l 5) (aI l 6) (aI l 7) (aI l 8) 0), .i (meetW (aI l 0) (aI l 1) (aI l 2) (aI l 3) (aI l 4) (aI l 5) (aI l 6) (aI l 7) (aI l 8) 1), .i (meetW (aI l 0) (aI l 1) (aI l 2) (aI l 3) (aI l 4) (aI l 5) (aI l 6) (aI l 7) (aI l 8) 2), .i (meetW (aI l 0) (aI l 1) (aI l 2) (aI l 3) (aI l 4) (aI l 5) (aI l 6) (aI l 7) (aI l 8) 3), .i (meetW (aI l 0) (aI l 1) (aI l 2) (aI l 3) (aI l 4) (aI l 5) (aI l 6) (aI l 7) (aI l 8) 4), .i (meetW (aI l 0) (aI l 1) (aI l 2) (aI l 3) (aI l 4) (aI l 5) (aI l 6) (aI l 7) (aI l 8) 5), .i (meetW (aI l 0) (aI l 1) (aI l 2) (aI l 3) (aI l 4) (aI l 5) (aI l 6) (aI l 7) (aI l 8) 6), .i (meetW (aI l 0) (aI l 1) (aI l 2) (aI l 3) (aI l 4) (aI l 5) (aI l 6) (aI l 7) (aI l 8) 7), .b (meetB (aI l 0) (aI l 1) (aI l 2) (aI l 3) (aI l 4) (aI l 5) (aI l 6) (aI l 7) (aI l 8))]) .no

theorem isId_eq (x : Int) : r_isId_0 x = decide (0 ≤ x ∧ x < 49) := by
  have := notId_eq x
  unfold r_notId_0 at this
  exact Bool.not_inj this
theorem waits_eq' (x : Int) : r_waits_0 x = decide (x = 3 ∨ x = 4) := waits_eq x

section
variable {x0 x1 x2 x3 x4 x5 x6 x7 x8 x9 : Int}
theorem waitR_no {c : Int} (hc : waitC x0 x1 x2 x3 x4 x5 x6 x7 x8 x9 = c) (h : c ≠ 0) : ([.i 0, .i 0, .i 0, .i 0, .i 0, .i 0, .i 0, .i 0, .i c] : List At) = [.i (waitW x0 x1 x2 x3 x4 x5 x6 x7 x8 x9 0), .i (waitW x0 x1 x2 x3 x4 x5 x6 x7 x8 x9 1), .i (waitW x0 x1 x2 x3 x4 x5 x6 x7 x8 x9 2), .i (waitW x0 x1 x2 x3 x4 x5 x6 x7 x8 x9 3), .i (waitW x0 x1 x2 x3 x4 x5 x6 x7 x8 x9 4), .i (waitW x0 x1 x2 x3 x4 x5 x6 x7 x8 x9 5), .i (waitW x0 x1 x2 x3 x4 x5 x6 x7 x8 x9 6), .i (waitW x0 x1 x2 x3 x4 x5 x6 x7 x8 x9 7), .i (waitC x0 x1 x2 x3 x4 x5 x6 x7 x8 x9)] := by
  subst hc
  unfold waitW
  simp only [if_neg h]
theorem waitR_ok (h : waitC x0 x1 x2 x3 x4 x5 x6 x7 x8 x9 = 0) : ([.i (lineC x8 (cnt x0 + 1) (addG x0 x1 x2 x3 x4 x5 x6 x7 x9) 0), .i (lineC x8 (cnt x0 + 1) (addG x0 x1 x2 x3 x4 x5 x6 x7 x9) 1), .i (lineC x8 (cnt x0 + 1) (addG x0 x1 x2 x3 x4 x5 x6 x7 x9) 2), .i (lineC x8 (cnt x0 + 1) (addG x0 x1 x2 x3 x4 x5 x6 x7 x9) 3), .i (lineC x8 (cnt x0 + 1) (addG x0 x1 x2 x3 x4 x5 x6 x7 x9) 4), .i (lineC x8 (cnt x0 + 1) (addG x0 x1 x2 x3 x4 x5 x6 x7 x9) 5), .i (lineC x8 (cnt x0 + 1) (addG x0 x1 x2 x3 x4 x5 x6 x7 x9) 6), .i (lineC x8 (cnt x0 + 1) (addG x0 x1 x2 x3 x4 x5 x6 x7 x9) 7), .i 0] : List At) = [.i (waitW x0 x1 x2 x3 x4 x5 x6 x7 x8 x9 0), .i (waitW x0 x1 x2 x3 x4 x5 x6 x7 x8 x9 1), .i (waitW x0 x1 x2 x3 x4 x5 x6 x7 x8 x9 2), .i (waitW x0 x1 x2 x3 x4 x5 x6 x7 x8 x9 3), .i (waitW x0 x1 x2 x3 x4 x5 x6 x7 x8 x9 4), .i (waitW x0 x1 x2 x3 x4 x5 x6 x7 x8 x9 5), .i (waitW x0 x1 x2 x3 x4 x5 x6 x7 x8 x9 6), .i (waitW x0 x1 x2 x3 x4 x5 x6 x7 x8 x9 7), .i (waitC x0 x1 x2 x3 x4 x5 x6 x7 x8 x9)] := by
  unfold waitW
  simp only [h, if_true]
theorem no1 (h : ¬ ((x8 = 3 ∨ x8 = 4) ∧ 0 ≤ x9 ∧ x9 < 49)) : ([.i 0, .i 0, .i 0, .i 0, .i 0, .i 0, .i 0, .i 0, .i 1] : List At) = [.i (waitW x0 x1 x2 x3 x4 x5 x6 x7 x8 x9 0), .i (waitW x0 x1 x2 x3 x4 x5 x6 x7 x8 x9 1), .i (waitW x0 x1 x2 x3 x4 x5 x6 x7 x8 x9 2), .i (waitW x0 x1 x2 x3 x4 x5 x6 x7 x8 x9 3), .i (waitW x0 x1 x2 x3 x4 x5 x6 x7 x8 x9 4), .i (waitW x0 x1 x2 x3 x4 x5 x6 x7 x8 x9 5), .i (waitW x0 x1 x2 x3 x4 x5 x6 x7 x8 x9 6), .i (waitW x0 x1 x2 x3 x4 x5 x6 x7 x8 x9 7), .i (waitC x0 x1 x2 x3 x4 x5 x6 x7 x8 x9)] := waitR_no (by unfold waitC; rw [if_pos h]) (by decide)
theorem no41 (h : (x8 = 3 ∨ x8 = 4) ∧ 0 ≤ x9 ∧ x9 < 49) (hg : gate x0 x1 x2 x3 x4 x5 x6 x7 = false) : ([.i 0, .i 0, .i 0, .i 0, .i 0, .i 0, .i 0, .i 0, .i 41] : List At) = [.i (waitW x0 x1 x2 x3 x4 x5 x6 x7 x8 x9 0), .i (waitW x0 x1 x2 x3 x4 x5 x6 x7 x8 x9 1), .i (waitW x0 x1 x2 x3 x4 x5 x6 x7 x8 x9 2), .i (waitW x0 x1 x2 x3 x4 x5 x6 x7 x8 x9 3), .i (waitW x0 x1 x2 x3 x4 x5 x6 x7 x8 x9 4), .i (waitW x0 x1 x2 x3 x4 x5 x6 x7 x8 x9 5), .i (waitW x0 x1 x2 x3 x4 x5 x6 x7 x8 x9 6), .i (waitW x0 x1 x2 x3 x4 x5 x6 x7 x8 x9 7), .i (waitC x0 x1 x2 x3 x4 x5 x6 x7 x8 x9)] := waitR_no (by unfold waitC; rw [if_neg (Classical.not_not.2 h), hg]; rfl) (by decide)
theorem no2 (h : (x8 = 3 ∨ x8 = 4) ∧ 0 ≤ x9 ∧ x9 < 49) (hg : gate x0 x1 x2 x3 x4 x5 x6 x7 = true) (h2 : x0 % 16 ≠ 0 ∧ x0 % 16 ≠ x8) : ([.i 0, .i 0, .i 0, .i 0, .i 0, .i 0, .i 0, .i 0, .i 1] : List At) = [.i (waitW x0 x1 x2 x3 x4 x5 x6 x7 x8 x9 0), .i (waitW x0 x1 x2 x3 x4 x5 x6 x7 x8 x9 1), .i (waitW x0 x1 x2 x3 x4 x5 x6 x7 x8 x9 2), .i (waitW x0 x1 x2 x3 x4 x5 x6 x7 x8 x9 3), .i (waitW x0 x1 x2 x3 x4 x5 x6 x7 x8 x9 4), .i (waitW x0 x1 x2 x3 x4 x5 x6 x7 x8 x9 5), .i (waitW x0 x1 x2 x3 x4 x5 x6 x7 x8 x9 6), .i (waitW x0 x1 x2 x3 x4 x5 x6 x7 x8 x9 7), .i (waitC x0 x1 x2 x3 x4 x5 x6 x7 x8 x9)] := waitR_no (by unfold waitC; rw [if_neg (Classical.not_not.2 h), hg, if_pos h2]; rfl) (by decide)
theorem no43 (h : (x8 = 3 ∨ x8 = 4) ∧ 0 ≤ x9 ∧ x9 < 49) (hg : gate x0 x1 x2 x3 x4 x5 x6 x7 = true) (h2 : ¬ (x0 % 16 ≠ 0 ∧ x0 % 16 ≠ x8)) (h3 : cnt x0 = 7) : ([.i 0, .i 0, .i 0, .i 0, .i 0, .i 0, .i 0, .i 0, .i 43] : List At) = [.i (waitW x0 x1 x2 x3 x4 x5 x6 x7 x8 x9 0), .i (waitW x0 x1 x2 x3 x4 x5 x6 x7 x8 x9 1), .i (waitW x0 x1 x2 x3 x4 x5 x6 x7 x8 x9 2), .i (waitW x0 x1 x2 x3 x4 x5 x6 x7 x8 x9 3), .i (waitW x0 x1 x2 x3 x4 x5 x6 x7 x8 x9 4), .i (waitW x0 x1 x2 x3 x4 x5 x6 x7 x8 x9 5), .i (waitW x0 x1 x2 x3 x4 x5 x6 x7 x8 x9 6), .i (waitW x0 x1 x2 x3 x4 x5 x6 x7 x8 x9 7), .i (waitC x0 x1 x2 x3 x4 x5 x6 x7 x8 x9)] := waitR_no (by unfold waitC; rw [if_neg (Classical.not_not.2 h), hg, if_neg h2, if_pos h3]; rfl) (by decide)
theorem yes0 (h : (x8 = 3 ∨ x8 = 4) ∧ 0 ≤ x9 ∧ x9 < 49) (hg : gate x0 x1 x2 x3 x4 x5 x6 x7 = true) (h2 : ¬ (x0 % 16 ≠ 0 ∧ x0 % 16 ≠ x8)) (h3 : ¬ cnt x0 = 7) : waitC x0 x1 x2 x3 x4 x5 x6 x7 x8 x9 = 0 := by unfold waitC; rw [if_neg (Classical.not_not.2 h), hg, if_neg h2, if_neg h3]; rfl

theorem cnt_le (x0 : Int) : cnt x0 ≤ 7 := by unfold cnt; omega

/-- One more waits. -/
theorem add_ok {G : Nat → Int} (h : (x8 = 3 ∨ x8 = 4) ∧ 0 ≤ x9 ∧ x9 < 49) (hg : gate x0 x1 x2 x3 x4 x5 x6 x7 = true) (h3 : ¬ cnt x0 = 7) (hG : ∀ k, G k = addG x0 x1 x2 x3 x4 x5 x6 x7 x9 k) :
    lineOk x8 (cnt x0 + 1) G = true := by
  have hc := cnt_le x0
  unfold lineOk
  rw [Bool.and_eq_true]
  refine ⟨decide_eq_true (by omega), decide_eq_true fun k hk => ?_⟩
  rw [hG]
  unfold addG
  by_cases h1 : k < cnt x0
  · rw [if_pos h1]
    exact decide_eq_true (gate_id hg k h1)
  · rw [if_neg h1]
    exact decide_eq_true h.2
theorem waitL {G : Nat → Int} (h : (x8 = 3 ∨ x8 = 4) ∧ 0 ≤ x9 ∧ x9 < 49) (hg : gate x0 x1 x2 x3 x4 x5 x6 x7 = true) (h2 : ¬ (x0 % 16 ≠ 0 ∧ x0 % 16 ≠ x8)) (h3 : ¬ cnt x0 = 7) (hG : ∀ k, G k = addG x0 x1 x2 x3 x4 x5 x6 x7 x9 k) :
    ([.i (lineW x8 (cnt x0 + 1) G 0), .i (lineW x8 (cnt x0 + 1) G 1), .i (lineW x8 (cnt x0 + 1) G 2), .i (lineW x8 (cnt x0 + 1) G 3), .i (lineW x8 (cnt x0 + 1) G 4), .i (lineW x8 (cnt x0 + 1) G 5), .i (lineW x8 (cnt x0 + 1) G 6), .i (lineW x8 (cnt x0 + 1) G 7), .i (lineE x8 (cnt x0 + 1) G)] : List At) = [.i (waitW x0 x1 x2 x3 x4 x5 x6 x7 x8 x9 0), .i (waitW x0 x1 x2 x3 x4 x5 x6 x7 x8 x9 1), .i (waitW x0 x1 x2 x3 x4 x5 x6 x7 x8 x9 2), .i (waitW x0 x1 x2 x3 x4 x5 x6 x7 x8 x9 3), .i (waitW x0 x1 x2 x3 x4 x5 x6 x7 x8 x9 4), .i (waitW x0 x1 x2 x3 x4 x5 x6 x7 x8 x9 5), .i (waitW x0 x1 x2 x3 x4 x5 x6 x7 x8 x9 6), .i (waitW x0 x1 x2 x3 x4 x5 x6 x7 x8 x9 7), .i (waitC x0 x1 x2 x3 x4 x5 x6 x7 x8 x9)] := by
  have e : G = addG x0 x1 x2 x3 x4 x5 x6 x7 x9 := funext hG
  subst e
  have := add_ok h hg h3 (fun _ => rfl)
  rw [← waitR_ok (yes0 h hg h2 h3)]
  unfold lineW lineE
  rw [this]; rfl

theorem appG_add (k : Nat) : appG (fun (k c : Nat) => gRows x1 x2 x3 x4 x5 x6 x7 (k) c) (cnt x0) (rowsF [[x9]]) (k) (0 : Nat) = addG x0 x1 x2 x3 x4 x5 x6 x7 x9 k := by
  unfold appG addG
  rfl
end

theorem appG_add2 {x0 x1 x2 x3 x4 x5 x6 x7 x9 : Int} (k : Nat) : appG (appG (fun (x x_1 : Nat) => (0 : Int)) 0 (fun (j c : Nat) => gRows x1 x2 x3 x4 x5 x6 x7 j c)) (cnt x0) (rowsF [[x9]]) k (0 : Nat) = addG x0 x1 x2 x3 x4 x5 x6 x7 x9 k := by
  unfold appG addG
  by_cases h : k < cnt x0
  · rw [if_pos h, if_pos h, if_neg (by omega), Nat.sub_zero]; rfl
  · rw [if_neg h, if_neg h]; rfl

theorem t_gWait (x0 x1 x2 x3 x4 x5 x6 x7 x8 x9 : Int) (hr : Rng x0 x1 x2 x3 x4 x5 x6 x7) : (T_gWait x0 x1 x2 x3 x4 x5 x6 x7 x8 x9).sat fun r => r = [.i (waitW x0 x1 x2 x3 x4 x5 x6 x7 x8 x9 0), .i (waitW x0 x1 x2 x3 x4 x5 x6 x7 x8 x9 1), .i (waitW x0 x1 x2 x3 x4 x5 x6 x7 x8 x9 2), .i (waitW x0 x1 x2 x3 x4 x5 x6 x7 x8 x9 3), .i (waitW x0 x1 x2 x3 x4 x5 x6 x7 x8 x9 4), .i (waitW x0 x1 x2 x3 x4 x5 x6 x7 x8 x9 5), .i (waitW x0 x1 x2 x3 x4 x5 x6 x7 x8 x9 6), .i (waitW x0 x1 x2 x3 x4 x5 x6 x7 x8 x9 7), .i (waitC x0 x1 x2 x3 x4 x5 x6 x7 x8 x9)] := by
  have hc := cnt_le x0
  unfold T_gWait
  rw [waits_eq', isId_eq]
  cases hg : gate x0 x1 x2 x3 x4 x5 x6 x7 with
  | false =>
    refine brND (fun hA => Tr.sat_ok.2 (no1 (by omega))) (fun hA => brND (fun hB => Tr.sat_ok.2 (no1 (by omega))) (fun hB => brT (decide_eq_true hr) (brT rfl (Tr.sat_ok.2 (no41 ⟨hA, hB⟩ hg)))))
  | true =>
    refine brND (fun hA => Tr.sat_ok.2 (no1 (by omega))) (fun hA => brND (fun hB => Tr.sat_ok.2 (no1 (by omega))) (fun hB => brT (decide_eq_true hr) (brF rfl ?_)))
    simp only [cond_true, cond_false, Bool.not_true, Bool.not_false, Int.toNat_natCast, Nat.sub_zero, Bool.true_and, Bool.true_or, Nat.zero_add]
    repeat' (first | refine brND (fun h => ?_) (fun h => ?_) | refine brNQ (fun h => ?_) (fun h => ?_) | refine brNE (fun h => ?_) (fun h => ?_) | refine brQ (fun h => ?_) (fun h => ?_) | refine brD (fun h => ?_) (fun h => ?_) | refine brW (fun h => ?_) (fun h => ?_) | refine brT (by simp <;> omega) ?_)
    all_goals first
      | exact Tr.sat_ok.2 (no2 ⟨hA, hB⟩ hg (by omega))
      | exact Tr.sat_ok.2 (no43 ⟨hA, hB⟩ hg (by omega) (by omega))
      | exact Tr.sat_ok.2 (waitL ⟨hA, hB⟩ hg (by omega) (by omega) (fun k => appG_add k))
      | (exfalso; omega)

theorem t_rWait (x0 x1 x2 x3 x4 x5 x6 x7 x8 x9 : Int) (hr : Rng x0 x1 x2 x3 x4 x5 x6 x7) : (T_rWait x0 x1 x2 x3 x4 x5 x6 x7 x8 x9).sat fun r => r = [.i (waitW x0 x1 x2 x3 x4 x5 x6 x7 x8 x9 0), .i (waitW x0 x1 x2 x3 x4 x5 x6 x7 x8 x9 1), .i (waitW x0 x1 x2 x3 x4 x5 x6 x7 x8 x9 2), .i (waitW x0 x1 x2 x3 x4 x5 x6 x7 x8 x9 3), .i (waitW x0 x1 x2 x3 x4 x5 x6 x7 x8 x9 4), .i (waitW x0 x1 x2 x3 x4 x5 x6 x7 x8 x9 5), .i (waitW x0 x1 x2 x3 x4 x5 x6 x7 x8 x9 6), .i (waitW x0 x1 x2 x3 x4 x5 x6 x7 x8 x9 7), .i (waitC x0 x1 x2 x3 x4 x5 x6 x7 x8 x9)] := by
  have hc := cnt_le x0
  unfold T_rWait T_rWait_s4 T_rWait_s3 T_rWait_s2 T_rWait_s1 T_rWait_s0
  cases hg : gate x0 x1 x2 x3 x4 x5 x6 x7 with
  | false =>
    simp only [cond_true, cond_false, Bool.not_true, Bool.not_false, Int.toNat_natCast, Nat.sub_zero, Bool.true_and, Bool.true_or, Nat.zero_add]
    repeat' (first | refine brNE (fun h => ?_) (fun h => ?_) | refine brT (decide_eq_true hr) ?_ | refine brD (fun h => ?_) (fun h => ?_) | refine brT rfl ?_ | refine brF rfl ?_)
    all_goals first
      | exact Tr.sat_ok.2 (no1 (by omega))
      | exact Tr.sat_ok.2 (no41 (by omega) hg)
      | (exfalso; omega)
  | true =>
    simp only [cond_true, cond_false, Bool.not_true, Bool.not_false, Int.toNat_natCast, Nat.sub_zero, Bool.true_and, Bool.true_or, Nat.zero_add]
    repeat' (first | refine brNE (fun h => ?_) (fun h => ?_) | refine brQ (fun h => ?_) (fun h => ?_) | refine brT (decide_eq_true hr) ?_ | refine brD (fun h => ?_) (fun h => ?_) | refine brT rfl ?_ | refine brF rfl ?_)
    all_goals first
      | exact Tr.sat_ok.2 (no1 (by omega))
      | exact Tr.sat_ok.2 (no2 (by omega) hg (by omega))
      | exact Tr.sat_ok.2 (no43 (by omega) hg (by omega) (by omega))
      | exact Tr.sat_ok.2 (waitL (by omega) hg (by omega) (by omega) (fun k => appG_add2 k))
      | (exfalso; omega)

section
variable {x0 x1 x2 x3 x4 x5 x6 x7 x8 : Int}
theorem meetR_no (h : meetB x0 x1 x2 x3 x4 x5 x6 x7 x8 = false) : ([.i 0, .i 0, .i 0, .i 0, .i 0, .i 0, .i 0, .i 0, .i 0, .b false] : List At) = [.i (meetI x0 x1 x2 x3 x4 x5 x6 x7 x8), .i (meetW x0 x1 x2 x3 x4 x5 x6 x7 x8 0), .i (meetW x0 x1 x2 x3 x4 x5 x6 x7 x8 1), .i (meetW x0 x1 x2 x3 x4 x5 x6 x7 x8 2), .i (meetW x0 x1 x2 x3 x4 x5 x6 x7 x8 3), .i (meetW x0 x1 x2 x3 x4 x5 x6 x7 x8 4), .i (meetW x0 x1 x2 x3 x4 x5 x6 x7 x8 5), .i (meetW x0 x1 x2 x3 x4 x5 x6 x7 x8 6), .i (meetW x0 x1 x2 x3 x4 x5 x6 x7 x8 7), .b (meetB x0 x1 x2 x3 x4 x5 x6 x7 x8)] := by
  unfold meetI meetW
  simp only [h, cond_false]
theorem meetB_g (hg : gate x0 x1 x2 x3 x4 x5 x6 x7 = false) : meetB x0 x1 x2 x3 x4 x5 x6 x7 x8 = false := by unfold meetB; rw [hg]; rfl
theorem meetB_n (h : ¬ ((x8 = 3 ∨ x8 = 4) ∧ (x0 % 16 = 3 ∨ x0 % 16 = 4) ∧ x0 % 16 ≠ x8)) : meetB x0 x1 x2 x3 x4 x5 x6 x7 x8 = false := by unfold meetB; rw [decide_eq_false h, Bool.and_false]
theorem meetB_y (hg : gate x0 x1 x2 x3 x4 x5 x6 x7 = true) (h : (x8 = 3 ∨ x8 = 4) ∧ (x0 % 16 = 3 ∨ x0 % 16 = 4) ∧ x0 % 16 ≠ x8) : meetB x0 x1 x2 x3 x4 x5 x6 x7 x8 = true := by unfold meetB; rw [hg, decide_eq_true h]; rfl
theorem gate_may (hg : gate x0 x1 x2 x3 x4 x5 x6 x7 = true) : mayBe (x0 % 16) (cnt x0) = true := by
  unfold gate lineOk at hg
  simp only [Bool.and_eq_true] at hg
  exact hg.1.1
theorem gate_1 (hg : gate x0 x1 x2 x3 x4 x5 x6 x7 = true) (h : x0 % 16 = 3 ∨ x0 % 16 = 4) : 1 ≤ cnt x0 := by
  have := gate_may hg
  simp only [mayBe, decide_eq_true_eq] at this
  omega
theorem meetR_one (hm : meetB x0 x1 x2 x3 x4 x5 x6 x7 x8 = true) (h1 : cnt x0 = 1) : ([.i (wds x1 x2 x3 x4 x5 x6 x7 0), .i 0, .i 0, .i 0, .i 0, .i 0, .i 0, .i 0, .i 0, .b true] : List At) = [.i (meetI x0 x1 x2 x3 x4 x5 x6 x7 x8), .i (meetW x0 x1 x2 x3 x4 x5 x6 x7 x8 0), .i (meetW x0 x1 x2 x3 x4 x5 x6 x7 x8 1), .i (meetW x0 x1 x2 x3 x4 x5 x6 x7 x8 2), .i (meetW x0 x1 x2 x3 x4 x5 x6 x7 x8 3), .i (meetW x0 x1 x2 x3 x4 x5 x6 x7 x8 4), .i (meetW x0 x1 x2 x3 x4 x5 x6 x7 x8 5), .i (meetW x0 x1 x2 x3 x4 x5 x6 x7 x8 6), .i (meetW x0 x1 x2 x3 x4 x5 x6 x7 x8 7), .b (meetB x0 x1 x2 x3 x4 x5 x6 x7 x8)] := by
  unfold meetI meetW
  simp only [hm, cond_true, h1, if_true]
  rfl
theorem rest_ok {G : Nat → Int} (hg : gate x0 x1 x2 x3 x4 x5 x6 x7 = true) (h : x0 % 16 = 3 ∨ x0 % 16 = 4) (h1 : ¬ cnt x0 = 1) (hG : ∀ k, G k = wds x1 x2 x3 x4 x5 x6 x7 (k + 1)) : lineOk (x0 % 16) (cnt x0 - 1) G = true := by
  have hc := cnt_le x0
  have := gate_1 hg h
  unfold lineOk
  rw [Bool.and_eq_true]
  refine ⟨decide_eq_true (by omega), decide_eq_true fun k hk => ?_⟩
  rw [hG]
  exact decide_eq_true (gate_id hg (k + 1) (by omega))
theorem meetR_more {G : Nat → Int} (hg : gate x0 x1 x2 x3 x4 x5 x6 x7 = true) (h : (x8 = 3 ∨ x8 = 4) ∧ (x0 % 16 = 3 ∨ x0 % 16 = 4) ∧ x0 % 16 ≠ x8) (h1 : ¬ cnt x0 = 1) (hG : ∀ k, G k = wds x1 x2 x3 x4 x5 x6 x7 (k + 1)) :
    ([.i (wds x1 x2 x3 x4 x5 x6 x7 0), .i (lineW (x0 % 16) (cnt x0 - 1) G 0), .i (lineW (x0 % 16) (cnt x0 - 1) G 1), .i (lineW (x0 % 16) (cnt x0 - 1) G 2), .i (lineW (x0 % 16) (cnt x0 - 1) G 3), .i (lineW (x0 % 16) (cnt x0 - 1) G 4), .i (lineW (x0 % 16) (cnt x0 - 1) G 5), .i (lineW (x0 % 16) (cnt x0 - 1) G 6), .i (lineW (x0 % 16) (cnt x0 - 1) G 7), .b true] : List At) = [.i (meetI x0 x1 x2 x3 x4 x5 x6 x7 x8), .i (meetW x0 x1 x2 x3 x4 x5 x6 x7 x8 0), .i (meetW x0 x1 x2 x3 x4 x5 x6 x7 x8 1), .i (meetW x0 x1 x2 x3 x4 x5 x6 x7 x8 2), .i (meetW x0 x1 x2 x3 x4 x5 x6 x7 x8 3), .i (meetW x0 x1 x2 x3 x4 x5 x6 x7 x8 4), .i (meetW x0 x1 x2 x3 x4 x5 x6 x7 x8 5), .i (meetW x0 x1 x2 x3 x4 x5 x6 x7 x8 6), .i (meetW x0 x1 x2 x3 x4 x5 x6 x7 x8 7), .b (meetB x0 x1 x2 x3 x4 x5 x6 x7 x8)] := by
  obtain rfl : G = fun k => wds x1 x2 x3 x4 x5 x6 x7 (k + 1) := funext hG
  have hl := rest_ok hg h.2.1 h1 hG
  unfold meetI meetW lineW
  rw [meetB_y hg h, hl]
  simp only [cond_true, if_neg h1]
  rfl
end

theorem gRows_0 (x1 x2 x3 x4 x5 x6 x7 : Int) (k : Nat) : gRows x1 x2 x3 x4 x5 x6 x7 k 0 = wds x1 x2 x3 x4 x5 x6 x7 k := rfl

theorem t_gMeet (x0 x1 x2 x3 x4 x5 x6 x7 x8 : Int) (hr : Rng x0 x1 x2 x3 x4 x5 x6 x7) : (T_gMeet x0 x1 x2 x3 x4 x5 x6 x7 x8).sat fun r => r = [.i (meetI x0 x1 x2 x3 x4 x5 x6 x7 x8), .i (meetW x0 x1 x2 x3 x4 x5 x6 x7 x8 0), .i (meetW x0 x1 x2 x3 x4 x5 x6 x7 x8 1), .i (meetW x0 x1 x2 x3 x4 x5 x6 x7 x8 2), .i (meetW x0 x1 x2 x3 x4 x5 x6 x7 x8 3), .i (meetW x0 x1 x2 x3 x4 x5 x6 x7 x8 4), .i (meetW x0 x1 x2 x3 x4 x5 x6 x7 x8 5), .i (meetW x0 x1 x2 x3 x4 x5 x6 x7 x8 6), .i (meetW x0 x1 x2 x3 x4 x5 x6 x7 x8 7), .b (meetB x0 x1 x2 x3 x4 x5 x6 x7 x8)] := by
  have hc := cnt_le x0
  unfold T_gMeet
  rw [waits_eq', waits_eq']
  cases hg : gate x0 x1 x2 x3 x4 x5 x6 x7 with
  | false => exact brT (decide_eq_true hr) (brT rfl (Tr.sat_ok.2 (meetR_no (meetB_g hg))))
  | true =>
    refine brT (decide_eq_true hr) (brF rfl ?_)
    simp only [cond_true, Int.toNat_natCast, Bool.true_and]
    have h1 := @gate_1 x0 x1 x2 x3 x4 x5 x6 x7 hg
    repeat' (first | refine brND (fun h => ?_) (fun h => ?_) | refine brQ (fun h => ?_) (fun h => ?_) | refine brD (fun h => ?_) (fun h => ?_) | refine brW (fun h => ?_) (fun h => ?_))
    all_goals first
      | exact Tr.sat_ok.2 (meetR_no (meetB_n (by omega)))
      | exact Tr.sat_ok.2 (meetR_one (meetB_y hg (by omega)) (by omega))
      | exact Tr.sat_ok.2 (meetR_more hg (by omega) (by omega) (fun k => by show gRows x1 x2 x3 x4 x5 x6 x7 (1 + k) 0 = _; rw [Nat.add_comm 1 k]; rfl))
      | (exfalso; omega)

theorem meet_one0 {x0 x1 x2 x3 x4 x5 x6 x7 x8 : Int} {G : Nat → Int} (hm : meetB x0 x1 x2 x3 x4 x5 x6 x7 x8 = true) (h1 : cnt x0 = 1) : ([.i (wds x1 x2 x3 x4 x5 x6 x7 0), .i (lineW 0 (cnt x0 - 1) G 0), .i (lineW 0 (cnt x0 - 1) G 1), .i (lineW 0 (cnt x0 - 1) G 2), .i (lineW 0 (cnt x0 - 1) G 3), .i (lineW 0 (cnt x0 - 1) G 4), .i (lineW 0 (cnt x0 - 1) G 5), .i (lineW 0 (cnt x0 - 1) G 6), .i (lineW 0 (cnt x0 - 1) G 7), .b true] : List At) = [.i (meetI x0 x1 x2 x3 x4 x5 x6 x7 x8), .i (meetW x0 x1 x2 x3 x4 x5 x6 x7 x8 0), .i (meetW x0 x1 x2 x3 x4 x5 x6 x7 x8 1), .i (meetW x0 x1 x2 x3 x4 x5 x6 x7 x8 2), .i (meetW x0 x1 x2 x3 x4 x5 x6 x7 x8 3), .i (meetW x0 x1 x2 x3 x4 x5 x6 x7 x8 4), .i (meetW x0 x1 x2 x3 x4 x5 x6 x7 x8 5), .i (meetW x0 x1 x2 x3 x4 x5 x6 x7 x8 6), .i (meetW x0 x1 x2 x3 x4 x5 x6 x7 x8 7), .b (meetB x0 x1 x2 x3 x4 x5 x6 x7 x8)] := by
  rw [← meetR_one hm h1, h1]
  have hl : lineOk 0 (1 - 1) G = true := by
    unfold lineOk
    rw [Bool.and_eq_true]
    exact ⟨rfl, decide_eq_true fun k hk => by omega⟩
  unfold lineW
  simp only [hl, cond_true]
  rfl

theorem t_rMeet (x0 x1 x2 x3 x4 x5 x6 x7 x8 : Int) (hr : Rng x0 x1 x2 x3 x4 x5 x6 x7) : (T_rMeet x0 x1 x2 x3 x4 x5 x6 x7 x8).sat fun r => r = [.i (meetI x0 x1 x2 x3 x4 x5 x6 x7 x8), .i (meetW x0 x1 x2 x3 x4 x5 x6 x7 x8 0), .i (meetW x0 x1 x2 x3 x4 x5 x6 x7 x8 1), .i (meetW x0 x1 x2 x3 x4 x5 x6 x7 x8 2), .i (meetW x0 x1 x2 x3 x4 x5 x6 x7 x8 3), .i (meetW x0 x1 x2 x3 x4 x5 x6 x7 x8 4), .i (meetW x0 x1 x2 x3 x4 x5 x6 x7 x8 5), .i (meetW x0 x1 x2 x3 x4 x5 x6 x7 x8 6), .i (meetW x0 x1 x2 x3 x4 x5 x6 x7 x8 7), .b (meetB x0 x1 x2 x3 x4 x5 x6 x7 x8)] := by
  have hc := cnt_le x0
  unfold T_rMeet
  cases hg : gate x0 x1 x2 x3 x4 x5 x6 x7 with
  | false => exact brT (decide_eq_true hr) (brT rfl (Tr.sat_ok.2 (meetR_no (meetB_g hg))))
  | true =>
    refine brT (decide_eq_true hr) ?_
    simp only [cond_true, cond_false, Int.toNat_natCast, Bool.true_and, Bool.not_true]
    have h1 := @gate_1 x0 x1 x2 x3 x4 x5 x6 x7 hg
    have c37 : (bif x8 == (3 : Int) then bif !x0 % (16 : Int) == (4 : Int) then bif x8 == (4 : Int) then !x0 % (16 : Int) == (3 : Int) else true else false else bif x8 == (4 : Int) then !x0 % (16 : Int) == (3 : Int) else true) = !decide ((x8 = 3 ∨ x8 = 4) ∧ (x0 % 16 = 3 ∨ x0 % 16 = 4) ∧ x0 % 16 ≠ x8) := by
      generalize x0 % 16 = m
      simp only [cond_eq_ite, beq_iff_eq, Bool.not_eq_true', beq_eq_false_iff_ne]
      repeat' split
      all_goals first
        | (symm; rw [Bool.not_eq_true']; exact decide_eq_false (by omega))
        | (symm; rw [Bool.not_eq_false']; exact decide_eq_true (by omega))
        | (rw [Bool.eq_iff_iff]; simp only [Bool.not_eq_true', beq_eq_false_iff_ne, decide_eq_false_iff_not]; omega)
    rw [c37]
    clear c37
    repeat' (first | refine brND (fun h => ?_) (fun h => ?_) | refine brQ (fun h => ?_) (fun h => ?_) | refine brD (fun h => ?_) (fun h => ?_) | refine brW (fun h => ?_) (fun h => ?_))
    all_goals first
      | exact Tr.sat_ok.2 (meetR_no (meetB_n (by omega)))
      | exact Tr.sat_ok.2 (meet_one0 (meetB_y hg (by omega)) (by omega))
      | exact Tr.sat_ok.2 (meetR_more hg (by omega) (by omega) (fun k => by show gRows x1 x2 x3 x4 x5 x6 x7 (1 + k) 0 = _; rw [Nat.add_comm 1 k]; rfl))
      | (exfalso; omega)

theorem h_gWait : ∀ l r, (F2_Wait l).val = some r → ∃ r', ((call Try.prog Γ_S4 y_gWait noLoops 100 Try.f13 (mkV ish_gWait l) (mkH ish_gWait l)).bind (leafO 0 osh_gWait)).val = some r' ∧ AtsEq r' r := by
  intro l r h
  obtain ⟨hc, h⟩ := guard_val h
  have := val_ok h
  subst this
  obtain ⟨r', h1, h2⟩ := t_gWait (aI l 0) (aI l 1) (aI l 2) (aI l 3) (aI l 4) (aI l 5) (aI l 6) (aI l 7) (aI l 8) (aI l 9) (of_decide_eq_true hc)
  exact ⟨r', by rw [e_gWait]; exact h1, by rw [h2]; exact AtsEq.refl _⟩
theorem h_rWait : ∀ l r, (F2_Wait l).val = some r → ∃ r', ((call Try.prog Γ_gWait y_rWait noLoops 100 Try.f14 (mkV ish_rWait l) (mkH ish_rWait l)).bind (leafO 0 osh_rWait)).val = some r' ∧ AtsEq r' r := by
  intro l r h
  obtain ⟨hc, h⟩ := guard_val h
  have := val_ok h
  subst this
  obtain ⟨r', h1, h2⟩ := t_rWait (aI l 0) (aI l 1) (aI l 2) (aI l 3) (aI l 4) (aI l 5) (aI l 6) (aI l 7) (aI l 8) (aI l 9) (of_decide_eq_true hc)
  exact ⟨r', by rw [e_rWait]; exact h1, by rw [h2]; exact AtsEq.refl _⟩
theorem h_gMeet : ∀ l r, (F2_Meet l).val = some r → ∃ r', ((call Try.prog Γ_rWait y_gMeet noLoops 100 Try.f15 (mkV ish_gMeet l) (mkH ish_gMeet l)).bind (leafO 0 osh_gMeet)).val = some r' ∧ AtsEq r' r := by
  intro l r h
  obtain ⟨hc, h⟩ := guard_val h
  have := val_ok h
  subst this
  obtain ⟨r', h1, h2⟩ := t_gMeet (aI l 0) (aI l 1) (aI l 2) (aI l 3) (aI l 4) (aI l 5) (aI l 6) (aI l 7) (aI l 8) (of_decide_eq_true hc)
  exact ⟨r', by rw [e_gMeet]; exact h1, by rw [h2]; exact AtsEq.refl _⟩
theorem h_rMeet : ∀ l r, (F2_Meet l).val = some r → ∃ r', ((call Try.prog Γ_gMeet y_rMeet noLoops 100 Try.f16 (mkV ish_rMeet l) (mkH ish_rMeet l)).bind (leafO 0 osh_rMeet)).val = some r' ∧ AtsEq r' r := by
  intro l r h
  obtain ⟨hc, h⟩ := guard_val h
  have := val_ok h
  subst this
  obtain ⟨r', h1, h2⟩ := t_rMeet (aI l 0) (aI l 1) (aI l 2) (aI l 3) (aI l 4) (aI l 5) (aI l 6) (aI l 7) (aI l 8) (of_decide_eq_true hc)
  exact ⟨r', by rw [e_rMeet]; exact h1, by rw [h2]; exact AtsEq.refl _⟩
theorem s2_gWait : SpecF Try.prog 13 (.eff (locF ish_gWait osh_gWait F2_Wait)) :=
  spec_loc (sy := y_gWait) (fuel := 100) (Lp := noLoops) o_S4 mixed ⟨Try.func13, by kernel_rfl, by kernel_rfl⟩ ish_gWait osh_gWait (noLoops_ok _) h_gWait
theorem s2_rWait : SpecF Try.prog 14 (.eff (locF ish_rWait osh_rWait F2_Wait)) :=
  spec_loc (sy := y_rWait) (fuel := 100) (Lp := noLoops) o_gWait mixed ⟨Try.func14, by kernel_rfl, by kernel_rfl⟩ ish_rWait osh_rWait (noLoops_ok _) h_rWait
theorem s2_gMeet : SpecF Try.prog 15 (.eff (locF ish_gMeet osh_gMeet F2_Meet)) :=
  spec_loc (sy := y_gMeet) (fuel := 100) (Lp := noLoops) o_rWait mixed ⟨Try.func15, by kernel_rfl, by kernel_rfl⟩ ish_gMeet osh_gMeet (noLoops_ok _) h_gMeet
theorem s2_rMeet : SpecF Try.prog 16 (.eff (locF ish_rMeet osh_rMeet F2_Meet)) :=
  spec_loc (sy := y_rMeet) (fuel := 100) (Lp := noLoops) o_gMeet mixed ⟨Try.func16, by kernel_rfl, by kernel_rfl⟩ ish_rMeet osh_rMeet (noLoops_ok _) h_rMeet
def Γ_S5 : Specs := (upd (upd (upd (upd Γ_rMeet 13 (.eff (locF ish_gWait osh_gWait F2_Wait))) 14 (.eff (locF ish_rWait osh_rWait F2_Wait))) 15 (.eff (locF ish_gMeet osh_gMeet F2_Meet))) 16 (.eff (locF ish_rMeet osh_rMeet F2_Meet)))
theorem o_S5 : SpecOK Try.prog Γ_S5 := (SpecOK.upd (SpecOK.upd (SpecOK.upd (SpecOK.upd o_rMeet s2_gWait) s2_rWait) s2_gMeet) s2_rMeet)
end Go.Proofs.Ytepdekambalmhaa.G
end

/-
  What functions of the seat compute, printed by a program from the explorer.
-/
section
namespace Go.Proofs.Ytepdekambalmhaa.G
open Go Go.AM Go.Proofs
/-! ### the loop at 4 of same -/

def lsh_same_4 : FSh := ⟨[.v false [.sq 0 1], .v false [.sq 1 1], .any, .any, .any, .v false [.k (.n .i64)], .any, .any, .any, .any, .any, .any, .any, .any, .any, .any, .any, .any, .any, .any, .any, .any, .any, .any, .any, .any], [.rows [.n .i64] false, .rows [.n .i64] false]⟩
def xsh_same_4_0 : FSh := ⟨[.any, .any, .any, .any, .any, .any, .any, .any, .any, .any, .any, .any, .any, .any, .any, .any, .any, .any, .any, .any, .any, .any, .any, .any, .any, .any], [.no, .no]⟩
def xsh_same_4_1 : FSh := ⟨[.any, .any, .any, .any, .v false [.k .b], .any, .any, .any, .any, .any, .any, .any, .any, .any, .any, .any, .any, .any, .any, .any, .any, .any, .any, .any, .any, .any], [.no, .no]⟩
def xs_same_4 : Exs := fun e => match e with
  | .normal => some lsh_same_4
  | .exit n => (match Nat.beq n 0 with | true => some xsh_same_4_0 | false => none)
  | .ret => some xsh_same_4_1
def B_same_4 (x0 : Nat) (x1 : Nat) (x2 : Nat) (x3 : Nat) (x4 : Int) (n5 : Nat) (g5 : Nat → Nat → Int) (n6 : Nat) (g6 : Nat → Nat → Int) : Tr (Ex × List At) :=
 .br 14 (decide (x4 < (↑x1 : Int)))
 (.br 19 (within x4 x1)
 (.br 23 (within x4 x3)
 (.br 25 (g5 (x0 + Int.toNat x4) (0 : Nat) != g6 (x2 + Int.toNat x4) (0 : Nat))
 (.ok (.ret, [(.b (false))]))
 (.ok (.normal, [(.n (x0)), (.n (x1)), (.n (x2)), (.n (x3)), (.i (IntKind.wrap IntKind.i64 (x4 + (1 : Int)))), (.r (n5) (g5)), (.r (n6) (g6))])))
 (.no))
 (.no))
 (.ok (.exit 0, []))
def y_same_4 : Nat → Option Nat := (syOf3 [14, 19, 23, 25] [] [])
def BL_same_4 (l : List At) : Tr (Ex × List At) := B_same_4 (aN l 0) (aN l 1) (aN l 2) (aN l 3) (aI l 4) (aRn l 5) (aRg l 5) (aRn l 6) (aRg l 6)
theorem eB_same_4 (l : List At) : (exec Try.prog Γ_S5 y_same_4 noLoops 100 (loopAt Try.f12 4) ⟨mkV lsh_same_4 l, mkH lsh_same_4 l⟩).bind (leafL 2 xs_same_4) = BL_same_4 l := by kernel_rfl
/- by hand: O_same_4 (x0 : Nat) (x1 : Nat) (x2 : Nat) (x3 : Nat) (x4 : Int) (n5 : Nat) (g5 : Nat → Nat → Int) (n6 : Nat) (g6 : Nat → Nat → Int) : Tr (Ex × List At); OL_same_4 (l) := O_same_4 (aN l 0) (aN l 1) (aN l 2) (aN l 3) (aI l 4) (aRn l 5) (aRg l 5) (aRn l 6) (aRg l 6); μ_same_4 : List At → Nat; rd_same_4 : ∀ l r, (OL_same_4 l).val = some r → RoundA BL_same_4 OL_same_4 μ_same_4 l r -/

end Go.Proofs.Ytepdekambalmhaa.G
end

/-
  What the loop that compares two rows of numbers comes to.
-/
section
namespace Go.Proofs.Ytepdekambalmhaa.G
open Go Go.AM Go.Proofs

def sameP (x0 x2 : Nat) (g5 g6 : Nat → Nat → Int) (k : Nat) : Bool := g5 (x0 + k) 0 != g6 (x2 + k) 0
def O_same_4 (x0 x1 x2 x3 : Nat) (x4 : Int) (_n5 : Nat) (g5 : Nat → Nat → Int) (_n6 : Nat) (g6 : Nat → Nat → Int) : Tr (Ex × List At) :=
  .br 0 (decide (0 ≤ x4 ∧ x1 = x3 ∧ x4 ≤ x1 ∧ x1 ≤ 9223372036854775807))
    (.br 0 (decide (findI (sameP x0 x2 g5 g6) (x1 - x4).toNat x4.toNat < x1)) (.ok (.ret, [.b false])) (.ok (.exit 0, []))) .no
def OL_same_4 (l : List At) : Tr (Ex × List At) := O_same_4 (aN l 0) (aN l 1) (aN l 2) (aN l 3) (aI l 4) (aRn l 5) (aRg l 5) (aRn l 6) (aRg l 6)
def μ_same_4 (l : List At) : Nat := (aN l 1 - aI l 4).toNat

theorem rd_same_4 : ∀ l r, (OL_same_4 l).val = some r → RoundS BL_same_4 OL_same_4 μ_same_4 l r := by
  intro l r h
  obtain ⟨hc, h⟩ := guard_val h
  simp only [decide_eq_true_eq] at hc
  obtain ⟨c0, c1, c2, c3⟩ := hc
  unfold RoundS BL_same_4 B_same_4
  refine brD (fun h1 => ?_) (fun h1 => ?_)
  · have hw : IntKind.i64.wrap (aI l 4 + 1) = aI l 4 + 1 := wrap_i64 (by omega) (by omega)
    rw [hw]
    refine brW (fun _ => brW (fun _ => brC (fun h3 => ?_) (fun h3 => ?_)) (fun hh => by exfalso; omega)) (fun hh => by exfalso; omega)
    · have hf := findI_hit (p := sameP (aN l 0) (aN l 2) (aRg l 5) (aRg l 6)) (m := (aN l 1 - aI l 4).toNat) (i := (aI l 4).toNat) (by omega) h3
      rw [hf, br_t (decide_eq_true (by omega))] at h
      have := val_ok h
      subst this
      exact out_ (by simp) rfl (AtsEq.refl _)
    · have hf := findI_step (p := sameP (aN l 0) (aN l 2) (aRg l 5) (aRg l 6)) (m := (aN l 1 - aI l 4).toNat) (m' := (aN l 1 - (aI l 4 + 1)).toNat) (i := (aI l 4).toNat) (by omega) h3
      refine on_ _ r (AtsEq.refl _) ?_ ?_ rfl (AtsEq.refl _)
      · show (aN l 1 - (aI l 4 + 1)).toNat < (aN l 1 - aI l 4).toNat
        omega
      · refine (br_t (g := 0) ?_).trans ?_
        · show decide (0 ≤ aI l 4 + 1 ∧ aN l 1 = aN l 3 ∧ aI l 4 + 1 ≤ aN l 1 ∧ aN l 1 ≤ 9223372036854775807) = true
          simp only [decide_eq_true_eq]; omega
        · rw [hf, show (aI l 4).toNat + 1 = (aI l 4 + 1).toNat by omega] at h
          exact h
  · have e : (aN l 1 - aI l 4).toNat = 0 := by omega
    rw [e, br_f (decide_eq_false (by simp only [findI]; omega))] at h
    have := val_ok h
    subst this
    exact out_ (by simp) rfl atsEq_nil
end Go.Proofs.Ytepdekambalmhaa.G
end

/-
  What functions of the seat compute, printed by a program from the explorer.
-/
section
namespace Go.Proofs.Ytepdekambalmhaa.G
open Go Go.AM Go.Proofs
theorem f_same_4 : LoopF Try.prog 2 (loopAt Try.f12 4) (loopFn 2 lsh_same_4 xs_same_4 OL_same_4) :=
  loop_sat (sy := y_same_4) (fuel := 100) (Lp := noLoops) o_S5 mixed (loopsOK_at (noLoops_ok _) 4) rfl eB_same_4 rd_same_4
def Lp_same_4 : Loops := Loops.set noLoops 4 (loopFn 2 lsh_same_4 xs_same_4 OL_same_4)
theorem lk_same_4 : LoopsFn Try.prog 2 Lp_same_4 Try.f12 := loopsFn_set (noLoops_ok _) (by kernel_rfl) f_same_4

/-! ### same -/

def ish_same : FSh := ⟨[.v false [.vw 0 1], .v false [.vw 1 1]], [.rows [.n .i64] false, .rows [.n .i64] false]⟩
def osh_same : FSh := ⟨[.v false [.k .b]], [.no, .no]⟩
def T_same (n0 : Nat) (g0 : Nat → Nat → Int) (n1 : Nat) (g1 : Nat → Nat → Int) : Tr (List At) :=
 .br 10 ((↑n0 : Int) != (↑n1 : Int))
 (.ok [(.b (false))])
 (.br 0 (decide ((0 : Int) ≤ (0 : Int) ∧ n0 = n1 ∧ (0 : Int) ≤ (↑n0 : Int) ∧ n0 ≤ (9223372036854775807 : Nat)))
 (.br 0 (decide (findI (sameP (0 : Nat) (0 : Nat) g0 g1) (Int.toNat ((↑n0 : Int) - (0 : Int))) (0 : Nat) < n0))
 (.ok [(.b (false))])
 (.ok [(.b (true))]))
 (.no))
def y_same : Nat → Option Nat := (syOf3 [10] [] [])
def TL_same (l : List At) : Tr (List At) := T_same (aRn l 0) (aRg l 0) (aRn l 1) (aRg l 1)
theorem e_same (l : List At) : (call Try.prog Γ_S5 y_same Lp_same_4 100 Try.f12 (mkV ish_same l) (mkH ish_same l)).bind (leafO 2 osh_same) = TL_same l := by kernel_rfl
def r_same_0 (n0 : Nat) (g0 : Nat → Nat → Int) (n1 : Nat) (g1 : Nat → Nat → Int) : Bool :=
  bif (↑n0 : Int) != (↑n1 : Int) then (false)
  else bif decide ((0 : Int) ≤ (0 : Int) ∧ n0 = n1 ∧ (0 : Int) ≤ (↑n0 : Int) ∧ n0 ≤ (9223372036854775807 : Nat)) then (bif decide (findI (sameP (0 : Nat) (0 : Nat) g0 g1) (Int.toNat ((↑n0 : Int) - (0 : Int))) (0 : Nat) < n0) then (false)
  else true)
  else false
def ok_same (n0 : Nat) (g0 : Nat → Nat → Int) (n1 : Nat) (g1 : Nat → Nat → Int) : Bool :=
  bif (↑n0 : Int) != (↑n1 : Int) then (true)
  else bif decide ((0 : Int) ≤ (0 : Int) ∧ n0 = n1 ∧ (0 : Int) ≤ (↑n0 : Int) ∧ n0 ≤ (9223372036854775807 : Nat)) then (bif decide (findI (sameP (0 : Nat) (0 : Nat) g0 g1) (Int.toNat ((↑n0 : Int) - (0 : Int))) (0 : Nat) < n0) then (true)
  else true)
  else false
def F_same : List At → Tr (List At) := fun l => .br 0 (ok_same (aRn l 0) (aRg l 0) (aRn l 1) (aRg l 1)) (.ok [.b (r_same_0 (aRn l 0) (aRg l 0) (aRn l 1) (aRg l 1))]) .no
theorem s_same : SpecF Try.prog 12 (.read (locR ish_same osh_same F_same)) :=
  spec_read (sy := y_same) (fuel := 100) (Lp := Lp_same_4) o_S5 mixed ⟨Try.func12, by kernel_rfl, by kernel_rfl⟩ ish_same osh_same (by kernel_rfl) lk_same_4 (hT_merged [.b] e_same (fun l => by kernel_rfl) (fun l => by kernel_rfl))
def Γ_same : Specs := upd Γ_S5 12 (.read (locR ish_same osh_same F_same))
theorem o_same : SpecOK Try.prog Γ_same := SpecOK.upd o_S5 s_same

/-! ### shown -/

def ish_shown : FSh := ⟨[], []⟩
def osh_shown : FSh := ⟨[.v false [.k .b]], []⟩
def T_shown  : Tr (List At) :=
 .br 0 (true)
 (.br 0 (true)
 (.br 0 (true)
 (.br 0 (true)
 (.ok [(.b (true))])
 (.no))
 (.no))
 (.no))
 (.no)
def y_shown : Nat → Option Nat := (syOf3 [] [] [])
def TL_shown (l : List At) : Tr (List At) := T_shown 
theorem e_shown (l : List At) : (call Try.prog Γ_same y_shown noLoops 100 Try.f7 (mkV ish_shown l) (mkH ish_shown l)).bind (leafO 0 osh_shown) = TL_shown l := by kernel_rfl
def r_shown_0  : Bool :=
  bif true then (bif true then (bif true then (bif true then (true)
  else false)
  else false)
  else false)
  else false
def ok_shown  : Bool :=
  bif true then (bif true then (bif true then (bif true then (true)
  else false)
  else false)
  else false)
  else false
def F_shown : List At → Tr (List At) := fun l => .br 0 (ok_shown ) (.ok [.b (r_shown_0)]) .no
theorem s_shown : SpecF Try.prog 7 (.eff (locF ish_shown osh_shown F_shown)) :=
  spec_loc (sy := y_shown) (fuel := 100) (Lp := noLoops) o_same mixed ⟨Try.func7, by kernel_rfl, by kernel_rfl⟩ ish_shown osh_shown (noLoops_ok _) (hT_merged [.b] e_shown (fun l => by kernel_rfl) (fun l => by kernel_rfl))
def Γ_shown : Specs := upd Γ_same 7 (.eff (locF ish_shown osh_shown F_shown))
theorem o_shown : SpecOK Try.prog Γ_shown := SpecOK.upd o_same s_shown

end Go.Proofs.Ytepdekambalmhaa.G
end

/-
  What functions of the seat compute, printed by a program from the explorer.
-/
section
namespace Go.Proofs.Ytepdekambalmhaa.G
open Go Go.AM Go.Proofs
/-! ### the loop at 9 of IpcHalves -/

def lsh_IpcHalves_9 : FSh := ⟨[.v false [.sq 0 1], .v false [.k (.n .i64)], .any, .any, .any, .any, .any, .v false [.k .b], .v false [.k (.n .i64)], .v false [.k (.n .i64)], .v false [.sw 1 1], .v false [.k (.n .i64)], .any, .any, .any, .any, .any, .any, .any, .any, .any, .any, .any, .any, .any, .any, .any, .any, .any, .any, .any, .any, .any, .any, .any, .any, .any, .any, .any, .any, .any, .any, .any, .any, .any, .any, .any, .any, .any, .any, .any, .any, .any, .any, .any, .any, .any, .any, .any, .any, .any, .any, .any, .any, .any, .any, .any, .any, .any, .any, .any, .any, .any, .any, .any, .any, .any, .any, .any, .any, .any, .any, .any, .any, .any, .any, .any, .any, .any, .any, .any, .any, .any, .any, .any, .any, .any, .any, .any, .any, .any, .any, .any, .any, .any, .any, .any, .any, .any, .any, .any, .any, .any, .any, .any, .any, .any, .any, .any, .any, .any, .any, .any, .any, .any, .any, .any, .any, .any, .any, .any, .any, .any, .any, .any, .any, .any, .any, .any, .any, .any, .any, .any, .any, .any, .any, .any, .any, .any, .any, .any, .any, .any, .any, .any, .any, .any, .any], [.rows [.n .i64] false, .rows [.n .i64] true]⟩
def xsh_IpcHalves_9_0 : FSh := ⟨[.any, .v false [.k (.n .i64)], .any, .any, .any, .any, .any, .v false [.k .b], .v false [.k (.n .i64)], .v false [.k (.n .i64)], .v false [.sw 1 1], .any, .any, .any, .any, .any, .any, .any, .any, .any, .any, .any, .any, .any, .any, .any, .any, .any, .any, .any, .any, .any, .any, .any, .any, .any, .any, .any, .any, .any, .any, .any, .any, .any, .any, .any, .any, .any, .any, .any, .any, .any, .any, .any, .any, .any, .any, .any, .any, .any, .any, .any, .any, .any, .any, .any, .any, .any, .any, .any, .any, .any, .any, .any, .any, .any, .any, .any, .any, .any, .any, .any, .any, .any, .any, .any, .any, .any, .any, .any, .any, .any, .any, .any, .any, .any, .any, .any, .any, .any, .any, .any, .any, .any, .any, .any, .any, .any, .any, .any, .any, .any, .any, .any, .any, .any, .any, .any, .any, .any, .any, .any, .any, .any, .any, .any, .any, .any, .any, .any, .any, .any, .any, .any, .any, .any, .any, .any, .any, .any, .any, .any, .any, .any, .any, .any, .any, .any, .any, .any, .any, .any, .any, .any, .any, .any, .any, .any], [.no, .rows [.n .i64] true]⟩
def xs_IpcHalves_9 : Exs := fun e => match e with
  | .normal => some lsh_IpcHalves_9
  | .exit n => (match Nat.beq n 0 with | true => some xsh_IpcHalves_9_0 | false => none)
  | .ret => none
def B_IpcHalves_9 (x0 : Nat) (x1 : Nat) (x2 : Int) (x3 : Bool) (x4 : Int) (x5 : Int) (x6 : Int) (n7 : Nat) (g7 : Nat → Nat → Int) (n8 : Nat) (g8 : Nat → Nat → Int) : Tr (Ex × List At) :=
 .br 38 (decide (x6 < (↑x1 : Int)))
 (.br 41 (decide (x6 < (6 : Int)))
 (.br 46 (within x6 x1)
 (.br 50 (decide (Int.tmod (g7 (x0 + Int.toNat x6) (0 : Nat)) (49 : Int) < (0 : Int)))
 (.br 56 (decide (n8 + (1 : Nat) ≤ (1073741824 : Nat)))
 (.ok (.normal, [(.n (x0)), (.n (x1)), (.i (x2)), (.b (x3)), (.i (x4)), (.i (x5)), (.i (IntKind.wrap IntKind.i64 (x6 + (1 : Int)))), (.r (n7) (g7)), (.r (n8 + (1 : Nat)) (appG g8 n8 (rowsF [[IntKind.wrap IntKind.i64 ((0 : Int) - Int.tmod (g7 (x0 + Int.toNat x6) (0 : Nat)) (49 : Int))]])))]))
 (.no))
 (.br 56 (decide (n8 + (1 : Nat) ≤ (1073741824 : Nat)))
 (.ok (.normal, [(.n (x0)), (.n (x1)), (.i (x2)), (.b (x3)), (.i (x4)), (.i (x5)), (.i (IntKind.wrap IntKind.i64 (x6 + (1 : Int)))), (.r (n7) (g7)), (.r (n8 + (1 : Nat)) (appG g8 n8 (rowsF [[Int.tmod (g7 (x0 + Int.toNat x6) (0 : Nat)) (49 : Int)]])))]))
 (.no)))
 (.no))
 (.ok (.exit 0, [(.i (x2)), (.b (x3)), (.i (x4)), (.i (x5)), (.r (n8) (g8))])))
 (.ok (.exit 0, [(.i (x2)), (.b (x3)), (.i (x4)), (.i (x5)), (.r (n8) (g8))]))
def y_IpcHalves_9 : Nat → Option Nat := (syOf3 [38, 41, 46, 50, 56] [] [])
def BL_IpcHalves_9 (l : List At) : Tr (Ex × List At) := B_IpcHalves_9 (aN l 0) (aN l 1) (aI l 2) (aB l 3) (aI l 4) (aI l 5) (aI l 6) (aRn l 7) (aRg l 7) (aRn l 8) (aRg l 8)
theorem eB_IpcHalves_9 (l : List At) : (exec Try.prog Γ_shown y_IpcHalves_9 noLoops 100 (loopAt Try.f6 9) ⟨mkV lsh_IpcHalves_9 l, mkH lsh_IpcHalves_9 l⟩).bind (leafL 1 xs_IpcHalves_9) = BL_IpcHalves_9 l := by kernel_rfl
/- by hand: O_IpcHalves_9 (x0 : Nat) (x1 : Nat) (x2 : Int) (x3 : Bool) (x4 : Int) (x5 : Int) (x6 : Int) (n7 : Nat) (g7 : Nat → Nat → Int) (n8 : Nat) (g8 : Nat → Nat → Int) : Tr (Ex × List At); OL_IpcHalves_9 (l) := O_IpcHalves_9 (aN l 0) (aN l 1) (aI l 2) (aB l 3) (aI l 4) (aI l 5) (aI l 6) (aRn l 7) (aRg l 7) (aRn l 8) (aRg l 8); μ_IpcHalves_9 : List At → Nat; rd_IpcHalves_9 : ∀ l r, (OL_IpcHalves_9 l).val = some r → RoundA BL_IpcHalves_9 OL_IpcHalves_9 μ_IpcHalves_9 l r -/

end Go.Proofs.Ytepdekambalmhaa.G
end

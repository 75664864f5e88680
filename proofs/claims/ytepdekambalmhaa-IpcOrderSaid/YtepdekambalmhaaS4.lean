/-
  What the functions that read a gate's line come to, in few words.
-/
import Derived.Test.YtepdekambalmhaaG4
import Derived.Test.YtepdekambalmhaaAnR
import Derived.KernelRfl
namespace Go.Proofs.Ytepdekambalmhaa.G
open Go Go.AM Go.Proofs

/-- How many numbers are looked at. -/
def cnt (x0 : Int) : Nat := min (x0 / 16 % 16).toNat 7
def wds (x1 x2 x3 x4 x5 x6 x7 : Int) (k : Nat) : Int := [x1, x2, x3, x4, x5, x6, x7].getD k 0
/-- Is it a gate's line? -/
def gate (x0 x1 x2 x3 x4 x5 x6 x7 : Int) : Bool := lineOk (x0 % 16) (cnt x0) (wds x1 x2 x3 x4 x5 x6 x7) && (lineC (x0 % 16) (cnt x0) (wds x1 x2 x3 x4 x5 x6 x7) 0 == x0 && (lineC (x0 % 16) (cnt x0) (wds x1 x2 x3 x4 x5 x6 x7) 1 == x1 && (lineC (x0 % 16) (cnt x0) (wds x1 x2 x3 x4 x5 x6 x7) 2 == x2 && (lineC (x0 % 16) (cnt x0) (wds x1 x2 x3 x4 x5 x6 x7) 3 == x3 && (lineC (x0 % 16) (cnt x0) (wds x1 x2 x3 x4 x5 x6 x7) 4 == x4 && (lineC (x0 % 16) (cnt x0) (wds x1 x2 x3 x4 x5 x6 x7) 5 == x5 && (lineC (x0 % 16) (cnt x0) (wds x1 x2 x3 x4 x5 x6 x7) 6 == x6 && (lineC (x0 % 16) (cnt x0) (wds x1 x2 x3 x4 x5 x6 x7) 7 == x7 && true))))))))
def gRows (x1 x2 x3 x4 x5 x6 x7 : Int) : Nat → Nat → Int := fun i c => match c with
  | 0 => wds x1 x2 x3 x4 x5 x6 x7 i
  | _ + 1 => 0
def ofR (x0 x1 x2 x3 x4 x5 x6 x7 : Int) : List At := [.i (bif gate x0 x1 x2 x3 x4 x5 x6 x7 then x0 % 16 else 0), .b (gate x0 x1 x2 x3 x4 x5 x6 x7), .r (bif gate x0 x1 x2 x3 x4 x5 x6 x7 then cnt x0 else 0) (gRows x1 x2 x3 x4 x5 x6 x7)]
def Rng (x0 x1 x2 x3 x4 x5 x6 x7 : Int) : Prop := 0 ≤ x0 ∧ x0 < 18446744073709551616 ∧ 0 ≤ x1 ∧ x1 < 18446744073709551616 ∧ 0 ≤ x2 ∧ x2 < 18446744073709551616 ∧ 0 ≤ x3 ∧ x3 < 18446744073709551616 ∧ 0 ≤ x4 ∧ x4 < 18446744073709551616 ∧ 0 ≤ x5 ∧ x5 < 18446744073709551616 ∧ 0 ≤ x6 ∧ x6 < 18446744073709551616 ∧ 0 ≤ x7 ∧ x7 < 18446744073709551616
instance (x0 x1 x2 x3 x4 x5 x6 x7 : Int) : Decidable (Rng x0 x1 x2 x3 x4 x5 x6 x7) := by unfold Rng; infer_instance
def F2_Of (l : List At) : Tr (List At) := .br 0 (decide (Rng (aI l 0) (aI l 1) (aI l 2) (aI l 3) (aI l 4) (aI l 5) (aI l 6) (aI l 7))) (.ok (ofR (aI l 0) (aI l 1) (aI l 2) (aI l 3) (aI l 4) (aI l 5) (aI l 6) (aI l 7))) .no

theorem wds_rng {x0 x1 x2 x3 x4 x5 x6 x7 : Int} (h : Rng x0 x1 x2 x3 x4 x5 x6 x7) (k : Nat) : 0 ≤ wds x1 x2 x3 x4 x5 x6 x7 k ∧ wds x1 x2 x3 x4 x5 x6 x7 k < 18446744073709551616 := by
  unfold Rng at h
  obtain ⟨_, _, h⟩ := h
  unfold wds
  match k with
  | 0 | 1 | 2 | 3 | 4 | 5 | 6 => simp only [List.getD_cons_zero, List.getD_cons_succ]; omega
  | k + 7 => simp only [List.getD_cons_succ, List.getD_nil]; omega

theorem idOk_wrap {x : Int} (h0 : 0 ≤ x) (h1 : x < 18446744073709551616) : idOk (IntKind.wrap IntKind.i64 x) = idOk x := by
  by_cases h : x < 9223372036854775808
  · rw [wrap_i64 (by omega) h]
  · have e : IntKind.wrap IntKind.i64 x = x - 18446744073709551616 := by
      simp [IntKind.wrap, IntKind.bits, IntKind.signed]; omega
    rw [e]
    unfold idOk
    rw [decide_eq_false (by omega), decide_eq_false (by omega)]

theorem gateC {x0 x1 x2 x3 x4 x5 x6 x7 m : Int} {k : Nat} {G : Nat → Int} (hr : Rng x0 x1 x2 x3 x4 x5 x6 x7) (hm : m = x0 % 16) (hk : k = cnt x0) (hG : ∀ i, i < k → G i = IntKind.wrap IntKind.i64 (wds x1 x2 x3 x4 x5 x6 x7 i)) :
    (bif lineE m k G != (0 : Int) then true else !(lineW m k G 0 == x0 && (lineW m k G 1 == x1 && (lineW m k G 2 == x2 && (lineW m k G 3 == x3 && (lineW m k G 4 == x4 && (lineW m k G 5 == x5 && (lineW m k G 6 == x6 && (lineW m k G 7 == x7 && true))))))))) = !gate x0 x1 x2 x3 x4 x5 x6 x7 := by
  have e : lineOk m k G = lineOk (x0 % 16) (cnt x0) (wds x1 x2 x3 x4 x5 x6 x7) := by
    subst hm; subst hk
    unfold lineOk
    congr 1
    refine decide_eq_decide.2 ⟨fun h i hi => ?_, fun h i hi => ?_⟩
    · have := h i hi
      rw [hG i hi, idOk_wrap (wds_rng hr i).1 (wds_rng hr i).2] at this
      exact this
    · rw [hG i hi, idOk_wrap (wds_rng hr i).1 (wds_rng hr i).2]
      exact h i hi
  unfold gate lineE lineW
  rw [e]
  cases ho : lineOk (x0 % 16) (cnt x0) (wds x1 x2 x3 x4 x5 x6 x7) with
  | false => rfl
  | true =>
    have hC : ∀ j, lineC m k G j = lineC (x0 % 16) (cnt x0) (wds x1 x2 x3 x4 x5 x6 x7) j := by
      intro j
      subst hm; subst hk
      unfold lineC
      by_cases h0 : j = 0
      · rw [if_pos h0, if_pos h0]
      · rw [if_neg h0, if_neg h0]
        by_cases hj : j ≤ cnt x0
        · rw [if_pos hj, if_pos hj, hG _ (by omega)]
          simp only [lineOk, Bool.and_eq_true, decide_eq_true_eq] at ho
          have := ho.2 (j - 1) (by omega)
          simp only [idOk, decide_eq_true_eq] at this
          exact wrap_i64 (by omega) (by omega)
        · rw [if_neg hj, if_neg hj]
    simp only [hC, cond_true, Bool.true_and]
    rfl

theorem fin {x0 x1 x2 x3 x4 x5 x6 x7 : Int} {c : Bool} {g : Nat} {k : Nat} {m : Int} {R : Nat → Nat → Int} (hm : m = x0 % 16) (hk : k = cnt x0) (hc : c = !gate x0 x1 x2 x3 x4 x5 x6 x7) (hR : gate x0 x1 x2 x3 x4 x5 x6 x7 = true → ∀ i, i < k → ∀ c, R i c = gRows x1 x2 x3 x4 x5 x6 x7 i c) :
    (Tr.br g c (.ok [(.i ((0 : Int))), (.b (false)), (.r ((0 : Nat)) (fun (x x_1 : Nat) => (0 : Int)))]) (.ok [(.i m), (.b (true)), (.r k R)])).sat fun r => AtsEq r (ofR x0 x1 x2 x3 x4 x5 x6 x7) := by
  subst hc
  unfold ofR
  cases hg : gate x0 x1 x2 x3 x4 x5 x6 x7 with
  | false => exact brT rfl (Tr.sat_ok.2 (atsEq_cons (AtEq.refl _) (atsEq_cons (AtEq.refl _) (atsEq_cons (atEq_r rfl fun i hi => by omega) atsEq_nil))))
  | true => exact brF rfl (Tr.sat_ok.2 (atsEq_cons (atEq_i hm) (atsEq_cons (AtEq.refl _) (atsEq_cons (atEq_r hk (hR hg)) atsEq_nil))))

theorem gate_id {x0 x1 x2 x3 x4 x5 x6 x7 : Int} (h : gate x0 x1 x2 x3 x4 x5 x6 x7 = true) (i : Nat) (hi : i < cnt x0) : 0 ≤ wds x1 x2 x3 x4 x5 x6 x7 i ∧ wds x1 x2 x3 x4 x5 x6 x7 i < 49 := by
  unfold gate at h
  simp only [Bool.and_eq_true] at h
  have h := h.1
  simp only [lineOk, Bool.and_eq_true, decide_eq_true_eq] at h
  have := h.2 i hi
  simpa [idOk] using this

theorem rows_ok {x0 x1 x2 x3 x4 x5 x6 x7 : Int} {R : Nat → Nat → Int} {k : Nat} (hk : k = cnt x0) (h : ∀ i, i < k → ∀ c, R i c = [IntKind.wrap IntKind.i64 (wds x1 x2 x3 x4 x5 x6 x7 i)].getD c 0) (hg : gate x0 x1 x2 x3 x4 x5 x6 x7 = true) : ∀ i, i < k → ∀ c, R i c = gRows x1 x2 x3 x4 x5 x6 x7 i c := by
  intro i hi c
  rw [h i hi c]
  subst hk
  have := gate_id hg i hi
  cases c with
  | zero => exact wrap_i64 (by omega) (by omega)
  | succ c => rfl

theorem rows0 (x1 x2 x3 x4 x5 x6 x7 : Int) : ∀ i, i < 0 → ∀ c, (fun (x x_1 : Nat) => (0 : Int)) i c = [IntKind.wrap IntKind.i64 (wds x1 x2 x3 x4 x5 x6 x7 i)].getD c 0 := by
  intro i hi; omega

theorem rows1 (x1 x2 x3 x4 x5 x6 x7 : Int) : ∀ i, i < 1 → ∀ c, (rowsF [[IntKind.wrap IntKind.i64 x1]]) i c = [IntKind.wrap IntKind.i64 (wds x1 x2 x3 x4 x5 x6 x7 i)].getD c 0 := by
  intro i hi c
  obtain rfl : i = 0 := by omega
  all_goals rfl

theorem rows2 (x1 x2 x3 x4 x5 x6 x7 : Int) : ∀ i, i < 2 → ∀ c, (appG (rowsF [[IntKind.wrap IntKind.i64 x1]]) (1 : Nat) (rowsF [[IntKind.wrap IntKind.i64 x2]])) i c = [IntKind.wrap IntKind.i64 (wds x1 x2 x3 x4 x5 x6 x7 i)].getD c 0 := by
  intro i hi c
  obtain rfl | rfl : i = 0 ∨ i = 1 := by omega
  all_goals rfl

theorem rows3 (x1 x2 x3 x4 x5 x6 x7 : Int) : ∀ i, i < 3 → ∀ c, (appG (appG (rowsF [[IntKind.wrap IntKind.i64 x1]]) (1 : Nat) (rowsF [[IntKind.wrap IntKind.i64 x2]])) (2 : Nat) (rowsF [[IntKind.wrap IntKind.i64 x3]])) i c = [IntKind.wrap IntKind.i64 (wds x1 x2 x3 x4 x5 x6 x7 i)].getD c 0 := by
  intro i hi c
  obtain rfl | rfl | rfl : i = 0 ∨ i = 1 ∨ i = 2 := by omega
  all_goals rfl

theorem rows4 (x1 x2 x3 x4 x5 x6 x7 : Int) : ∀ i, i < 4 → ∀ c, (appG (appG (appG (rowsF [[IntKind.wrap IntKind.i64 x1]]) (1 : Nat) (rowsF [[IntKind.wrap IntKind.i64 x2]])) (2 : Nat) (rowsF [[IntKind.wrap IntKind.i64 x3]])) (3 : Nat) (rowsF [[IntKind.wrap IntKind.i64 x4]])) i c = [IntKind.wrap IntKind.i64 (wds x1 x2 x3 x4 x5 x6 x7 i)].getD c 0 := by
  intro i hi c
  obtain rfl | rfl | rfl | rfl : i = 0 ∨ i = 1 ∨ i = 2 ∨ i = 3 := by omega
  all_goals rfl

theorem rows5 (x1 x2 x3 x4 x5 x6 x7 : Int) : ∀ i, i < 5 → ∀ c, (appG (appG (appG (appG (rowsF [[IntKind.wrap IntKind.i64 x1]]) (1 : Nat) (rowsF [[IntKind.wrap IntKind.i64 x2]])) (2 : Nat) (rowsF [[IntKind.wrap IntKind.i64 x3]])) (3 : Nat) (rowsF [[IntKind.wrap IntKind.i64 x4]])) (4 : Nat) (rowsF [[IntKind.wrap IntKind.i64 x5]])) i c = [IntKind.wrap IntKind.i64 (wds x1 x2 x3 x4 x5 x6 x7 i)].getD c 0 := by
  intro i hi c
  obtain rfl | rfl | rfl | rfl | rfl : i = 0 ∨ i = 1 ∨ i = 2 ∨ i = 3 ∨ i = 4 := by omega
  all_goals rfl

theorem rows6 (x1 x2 x3 x4 x5 x6 x7 : Int) : ∀ i, i < 6 → ∀ c, (appG (appG (appG (appG (appG (rowsF [[IntKind.wrap IntKind.i64 x1]]) (1 : Nat) (rowsF [[IntKind.wrap IntKind.i64 x2]])) (2 : Nat) (rowsF [[IntKind.wrap IntKind.i64 x3]])) (3 : Nat) (rowsF [[IntKind.wrap IntKind.i64 x4]])) (4 : Nat) (rowsF [[IntKind.wrap IntKind.i64 x5]])) (5 : Nat) (rowsF [[IntKind.wrap IntKind.i64 x6]])) i c = [IntKind.wrap IntKind.i64 (wds x1 x2 x3 x4 x5 x6 x7 i)].getD c 0 := by
  intro i hi c
  obtain rfl | rfl | rfl | rfl | rfl | rfl : i = 0 ∨ i = 1 ∨ i = 2 ∨ i = 3 ∨ i = 4 ∨ i = 5 := by omega
  all_goals rfl

theorem rows7 (x1 x2 x3 x4 x5 x6 x7 : Int) : ∀ i, i < 7 → ∀ c, (appG (appG (appG (appG (appG (appG (rowsF [[IntKind.wrap IntKind.i64 x1]]) (1 : Nat) (rowsF [[IntKind.wrap IntKind.i64 x2]])) (2 : Nat) (rowsF [[IntKind.wrap IntKind.i64 x3]])) (3 : Nat) (rowsF [[IntKind.wrap IntKind.i64 x4]])) (4 : Nat) (rowsF [[IntKind.wrap IntKind.i64 x5]])) (5 : Nat) (rowsF [[IntKind.wrap IntKind.i64 x6]])) (6 : Nat) (rowsF [[IntKind.wrap IntKind.i64 x7]])) i c = [IntKind.wrap IntKind.i64 (wds x1 x2 x3 x4 x5 x6 x7 i)].getD c 0 := by
  intro i hi c
  obtain rfl | rfl | rfl | rfl | rfl | rfl | rfl : i = 0 ∨ i = 1 ∨ i = 2 ∨ i = 3 ∨ i = 4 ∨ i = 5 ∨ i = 6 := by omega
  all_goals rfl

theorem mode_and {x0 : Int} (h0 : 0 ≤ x0) (h1 : x0 < 18446744073709551616) : IntKind.wrap IntKind.i64 (bits BinOp.and IntKind.u64 x0 (15 : Int)) = x0 % 16 := by
  obtain ⟨n, rfl⟩ := Int.eq_ofNat_of_zero_le h0
  have hn : n < 18446744073709551616 := by omega
  have e : bits BinOp.and IntKind.u64 (n : Int) 15 = ((n &&& 15 : Nat) : Int) := u64_and_nat _ 15 hn (by decide)
  have e2 : n &&& 15 = n % 16 := Nat.and_two_pow_sub_one_eq_mod n 4
  rw [e, e2, wrap_i64 (by omega) (by omega)]
  rfl
theorem div_16 {x0 : Int} : Int.fdiv x0 16 = x0 / 16 := by
  rw [Int.fdiv_eq_ediv_of_nonneg _ (by decide)]

theorem t_gOf (x0 x1 x2 x3 x4 x5 x6 x7 : Int) (hr : Rng x0 x1 x2 x3 x4 x5 x6 x7) : (T_gOf x0 x1 x2 x3 x4 x5 x6 x7).sat fun r => AtsEq r (ofR x0 x1 x2 x3 x4 x5 x6 x7) := by
  have hx : 0 ≤ x0 ∧ x0 < 18446744073709551616 := ⟨hr.1, hr.2.1⟩
  have hq : (if (7 : Int) < IntKind.wrap IntKind.i64 (bits BinOp.and IntKind.u64 (Int.fdiv x0 (16 : Int)) (15 : Int)) then (7 : Int) else IntKind.wrap IntKind.i64 (bits BinOp.and IntKind.u64 (Int.fdiv x0 (16 : Int)) (15 : Int))) = (cnt x0 : Nat) := by
    rw [div_16, mode_and (by omega) (by omega)]
    unfold cnt
    split <;> omega
  have hm := mode_and hx.1 hx.2
  have hc : cnt x0 ≤ 7 := by unfold cnt; omega
  unfold T_gOf
  rw [hq]
  generalize IntKind.wrap IntKind.i64 (bits BinOp.and IntKind.u64 x0 (15 : Int)) = m at hm ⊢
  clear hq
  refine brQ (fun h => brT (decide_eq_true (by decide)) (fin hm (k := 0) (by omega) (gateC hr hm (by omega) (fun i hi => by omega)) (rows_ok (by omega) (rows0 x1 x2 x3 x4 x5 x6 x7)))) (fun h0 => ?_)
  refine brQ (fun h => brT (decide_eq_true (by decide)) (fin hm (k := 1) (by omega) (gateC hr hm (by omega) (fun i hi => by have := rows1 x1 x2 x3 x4 x5 x6 x7 i hi 0; rw [Nat.zero_add]; exact this)) (rows_ok (by omega) (rows1 x1 x2 x3 x4 x5 x6 x7)))) (fun h1 => ?_)
  refine brQ (fun h => brT (decide_eq_true (by decide)) (fin hm (k := 2) (by omega) (gateC hr hm (by omega) (fun i hi => by have := rows2 x1 x2 x3 x4 x5 x6 x7 i hi 0; rw [Nat.zero_add]; exact this)) (rows_ok (by omega) (rows2 x1 x2 x3 x4 x5 x6 x7)))) (fun h2 => ?_)
  refine brQ (fun h => brT (decide_eq_true (by decide)) (fin hm (k := 3) (by omega) (gateC hr hm (by omega) (fun i hi => by have := rows3 x1 x2 x3 x4 x5 x6 x7 i hi 0; rw [Nat.zero_add]; exact this)) (rows_ok (by omega) (rows3 x1 x2 x3 x4 x5 x6 x7)))) (fun h3 => ?_)
  refine brQ (fun h => brT (decide_eq_true (by decide)) (fin hm (k := 4) (by omega) (gateC hr hm (by omega) (fun i hi => by have := rows4 x1 x2 x3 x4 x5 x6 x7 i hi 0; rw [Nat.zero_add]; exact this)) (rows_ok (by omega) (rows4 x1 x2 x3 x4 x5 x6 x7)))) (fun h4 => ?_)
  refine brQ (fun h => brT (decide_eq_true (by decide)) (fin hm (k := 5) (by omega) (gateC hr hm (by omega) (fun i hi => by have := rows5 x1 x2 x3 x4 x5 x6 x7 i hi 0; rw [Nat.zero_add]; exact this)) (rows_ok (by omega) (rows5 x1 x2 x3 x4 x5 x6 x7)))) (fun h5 => ?_)
  refine brQ (fun h => brT (decide_eq_true (by decide)) (fin hm (k := 6) (by omega) (gateC hr hm (by omega) (fun i hi => by have := rows6 x1 x2 x3 x4 x5 x6 x7 i hi 0; rw [Nat.zero_add]; exact this)) (rows_ok (by omega) (rows6 x1 x2 x3 x4 x5 x6 x7)))) (fun h6 => ?_)
  refine brQ (fun h => brT (decide_eq_true (by decide)) (fin hm (k := 7) (by omega) (gateC hr hm (by omega) (fun i hi => by have := rows7 x1 x2 x3 x4 x5 x6 x7 i hi 0; rw [Nat.zero_add]; exact this)) (rows_ok (by omega) (rows7 x1 x2 x3 x4 x5 x6 x7)))) (fun h7 => ?_)
  exfalso; omega

theorem t_rOf (x0 x1 x2 x3 x4 x5 x6 x7 : Int) (hr : Rng x0 x1 x2 x3 x4 x5 x6 x7) : (T_rOf x0 x1 x2 x3 x4 x5 x6 x7).sat fun r => AtsEq r (ofR x0 x1 x2 x3 x4 x5 x6 x7) := by
  have hx : 0 ≤ x0 ∧ x0 < 18446744073709551616 := ⟨hr.1, hr.2.1⟩
  obtain ⟨q, hq, hqc, hq0⟩ : ∃ q : Int, Int.tmod (IntKind.wrap IntKind.u64 (Int.tdiv x0 (16 : Int))) (16 : Int) = q ∧ (cnt x0 : Int) = min q 7 ∧ 0 ≤ q ∧ q ≤ 15 := by
    have e : Int.tmod (IntKind.wrap IntKind.u64 (Int.tdiv x0 (16 : Int))) (16 : Int) = x0 / 16 % 16 := by
      rw [Int.tdiv_eq_ediv_of_nonneg hx.1, wrap_u64 (by omega) (by omega), Int.tmod_eq_emod_of_nonneg (by omega)]
    refine ⟨_, e, ?_, by omega⟩
    unfold cnt
    omega
  have hm : IntKind.wrap IntKind.i64 (Int.tmod x0 (16 : Int)) = x0 % 16 := by
    rw [Int.tmod_eq_emod_of_nonneg hx.1, wrap_i64 (by omega) (by omega)]
  unfold T_rOf
  rw [hq]
  generalize IntKind.wrap IntKind.i64 (Int.tmod x0 (16 : Int)) = m at hm ⊢
  clear hq
  refine brQ (fun h => by exfalso; omega) (fun _ => ?_)
  refine brQ (fun h => by exfalso; omega) (fun _ => ?_)
  refine brQ (fun h => by exfalso; omega) (fun _ => ?_)
  refine brQ (fun h => by exfalso; omega) (fun _ => ?_)
  refine brQ (fun h => by exfalso; omega) (fun _ => ?_)
  refine brQ (fun h => by exfalso; omega) (fun _ => ?_)
  refine brQ (fun h => by exfalso; omega) (fun _ => ?_)
  refine brQ (fun h => by exfalso; omega) (fun _ => ?_)
  refine brQ (fun h => by exfalso; omega) (fun _ => ?_)
  refine brQ (fun h => by exfalso; omega) (fun _ => ?_)
  refine brQ (fun h => by exfalso; omega) (fun _ => ?_)
  refine brQ (fun h => by exfalso; omega) (fun _ => ?_)
  refine brQ (fun h => by exfalso; omega) (fun _ => ?_)
  refine brQ (fun h => by exfalso; omega) (fun _ => ?_)
  refine brQ (fun h => by exfalso; omega) (fun _ => ?_)
  refine brQ (fun h => brT (decide_eq_true (by decide)) (fin hm (k := 0) (by omega) (gateC hr hm (by omega) (fun i hi => by omega)) (rows_ok (by omega) (rows0 x1 x2 x3 x4 x5 x6 x7)))) (fun h0 => ?_)
  refine brQ (fun h => brT (decide_eq_true (by decide)) (fin hm (k := 1) (by omega) (gateC hr hm (by omega) (fun i hi => by have := rows1 x1 x2 x3 x4 x5 x6 x7 i hi 0; rw [Nat.zero_add]; exact this)) (rows_ok (by omega) (rows1 x1 x2 x3 x4 x5 x6 x7)))) (fun h1 => ?_)
  refine brQ (fun h => brT (decide_eq_true (by decide)) (fin hm (k := 2) (by omega) (gateC hr hm (by omega) (fun i hi => by have := rows2 x1 x2 x3 x4 x5 x6 x7 i hi 0; rw [Nat.zero_add]; exact this)) (rows_ok (by omega) (rows2 x1 x2 x3 x4 x5 x6 x7)))) (fun h2 => ?_)
  refine brQ (fun h => brT (decide_eq_true (by decide)) (fin hm (k := 3) (by omega) (gateC hr hm (by omega) (fun i hi => by have := rows3 x1 x2 x3 x4 x5 x6 x7 i hi 0; rw [Nat.zero_add]; exact this)) (rows_ok (by omega) (rows3 x1 x2 x3 x4 x5 x6 x7)))) (fun h3 => ?_)
  refine brQ (fun h => brT (decide_eq_true (by decide)) (fin hm (k := 4) (by omega) (gateC hr hm (by omega) (fun i hi => by have := rows4 x1 x2 x3 x4 x5 x6 x7 i hi 0; rw [Nat.zero_add]; exact this)) (rows_ok (by omega) (rows4 x1 x2 x3 x4 x5 x6 x7)))) (fun h4 => ?_)
  refine brQ (fun h => brT (decide_eq_true (by decide)) (fin hm (k := 5) (by omega) (gateC hr hm (by omega) (fun i hi => by have := rows5 x1 x2 x3 x4 x5 x6 x7 i hi 0; rw [Nat.zero_add]; exact this)) (rows_ok (by omega) (rows5 x1 x2 x3 x4 x5 x6 x7)))) (fun h5 => ?_)
  refine brQ (fun h => brT (decide_eq_true (by decide)) (fin hm (k := 6) (by omega) (gateC hr hm (by omega) (fun i hi => by have := rows6 x1 x2 x3 x4 x5 x6 x7 i hi 0; rw [Nat.zero_add]; exact this)) (rows_ok (by omega) (rows6 x1 x2 x3 x4 x5 x6 x7)))) (fun h6 => ?_)
  refine brQ (fun h => brT (decide_eq_true (by decide)) (fin hm (k := 7) (by omega) (gateC hr hm (by omega) (fun i hi => by have := rows7 x1 x2 x3 x4 x5 x6 x7 i hi 0; rw [Nat.zero_add]; exact this)) (rows_ok (by omega) (rows7 x1 x2 x3 x4 x5 x6 x7)))) (fun h7 => ?_)
  refine brQ (fun h => brT (decide_eq_true (by decide)) (fin hm (k := 7) (by omega) (gateC hr hm (by omega) (fun i hi => by have := rows7 x1 x2 x3 x4 x5 x6 x7 i hi 0; rw [Nat.zero_add]; exact this)) (rows_ok (by omega) (rows7 x1 x2 x3 x4 x5 x6 x7)))) (fun h8 => ?_)
  refine brQ (fun h => brT (decide_eq_true (by decide)) (fin hm (k := 7) (by omega) (gateC hr hm (by omega) (fun i hi => by have := rows7 x1 x2 x3 x4 x5 x6 x7 i hi 0; rw [Nat.zero_add]; exact this)) (rows_ok (by omega) (rows7 x1 x2 x3 x4 x5 x6 x7)))) (fun h9 => ?_)
  refine brQ (fun h => brT (decide_eq_true (by decide)) (fin hm (k := 7) (by omega) (gateC hr hm (by omega) (fun i hi => by have := rows7 x1 x2 x3 x4 x5 x6 x7 i hi 0; rw [Nat.zero_add]; exact this)) (rows_ok (by omega) (rows7 x1 x2 x3 x4 x5 x6 x7)))) (fun h10 => ?_)
  refine brQ (fun h => brT (decide_eq_true (by decide)) (fin hm (k := 7) (by omega) (gateC hr hm (by omega) (fun i hi => by have := rows7 x1 x2 x3 x4 x5 x6 x7 i hi 0; rw [Nat.zero_add]; exact this)) (rows_ok (by omega) (rows7 x1 x2 x3 x4 x5 x6 x7)))) (fun h11 => ?_)
  refine brQ (fun h => brT (decide_eq_true (by decide)) (fin hm (k := 7) (by omega) (gateC hr hm (by omega) (fun i hi => by have := rows7 x1 x2 x3 x4 x5 x6 x7 i hi 0; rw [Nat.zero_add]; exact this)) (rows_ok (by omega) (rows7 x1 x2 x3 x4 x5 x6 x7)))) (fun h12 => ?_)
  refine brQ (fun h => brT (decide_eq_true (by decide)) (fin hm (k := 7) (by omega) (gateC hr hm (by omega) (fun i hi => by have := rows7 x1 x2 x3 x4 x5 x6 x7 i hi 0; rw [Nat.zero_add]; exact this)) (rows_ok (by omega) (rows7 x1 x2 x3 x4 x5 x6 x7)))) (fun h13 => ?_)
  refine brQ (fun h => brT (decide_eq_true (by decide)) (fin hm (k := 7) (by omega) (gateC hr hm (by omega) (fun i hi => by have := rows7 x1 x2 x3 x4 x5 x6 x7 i hi 0; rw [Nat.zero_add]; exact this)) (rows_ok (by omega) (rows7 x1 x2 x3 x4 x5 x6 x7)))) (fun h14 => ?_)
  refine brQ (fun h => brT (decide_eq_true (by decide)) (fin hm (k := 7) (by omega) (gateC hr hm (by omega) (fun i hi => by have := rows7 x1 x2 x3 x4 x5 x6 x7 i hi 0; rw [Nat.zero_add]; exact this)) (rows_ok (by omega) (rows7 x1 x2 x3 x4 x5 x6 x7)))) (fun h15 => ?_)
  exfalso; omega

theorem h_gOf : ∀ l r, (F2_Of l).val = some r → ∃ r', ((call Try.prog Γ_S3 y_gOf noLoops 100 Try.f10 (mkV ish_gOf l) (mkH ish_gOf l)).bind (leafO 0 osh_gOf)).val = some r' ∧ AtsEq r' r := by
  intro l r h
  obtain ⟨hc, h⟩ := guard_val h
  have := val_ok h
  subst this
  obtain ⟨r', h1, h2⟩ := t_gOf (aI l 0) (aI l 1) (aI l 2) (aI l 3) (aI l 4) (aI l 5) (aI l 6) (aI l 7) (of_decide_eq_true hc)
  exact ⟨r', by rw [e_gOf]; exact h1, h2⟩
theorem s2_gOf : SpecF Try.prog 10 (.eff (locF ish_gOf osh_gOf F2_Of)) :=
  spec_loc (sy := y_gOf) (fuel := 100) (Lp := noLoops) o_S3 mixed ⟨Try.func10, by kernel_rfl, by kernel_rfl⟩ ish_gOf osh_gOf (noLoops_ok _) h_gOf

theorem h_rOf : ∀ l r, (F2_Of l).val = some r → ∃ r', ((call Try.prog Γ_gOf y_rOf noLoops 100 Try.f11 (mkV ish_rOf l) (mkH ish_rOf l)).bind (leafO 0 osh_rOf)).val = some r' ∧ AtsEq r' r := by
  intro l r h
  obtain ⟨hc, h⟩ := guard_val h
  have := val_ok h
  subst this
  obtain ⟨r', h1, h2⟩ := t_rOf (aI l 0) (aI l 1) (aI l 2) (aI l 3) (aI l 4) (aI l 5) (aI l 6) (aI l 7) (of_decide_eq_true hc)
  exact ⟨r', by rw [e_rOf]; exact h1, h2⟩
theorem s2_rOf : SpecF Try.prog 11 (.eff (locF ish_rOf osh_rOf F2_Of)) :=
  spec_loc (sy := y_rOf) (fuel := 100) (Lp := noLoops) o_gOf mixed ⟨Try.func11, by kernel_rfl, by kernel_rfl⟩ ish_rOf osh_rOf (noLoops_ok _) h_rOf
def Γ_S4 : Specs := upd (upd Γ_rOf 10 (.eff (locF ish_gOf osh_gOf F2_Of))) 11 (.eff (locF ish_rOf osh_rOf F2_Of))
theorem o_S4 : SpecOK Try.prog Γ_S4 := SpecOK.upd (SpecOK.upd o_rOf s2_gOf) s2_rOf
end Go.Proofs.Ytepdekambalmhaa.G

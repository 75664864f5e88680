/-
  What reads a root's line: the code's and the reference's, in the same words.
-/
import Derived.Test.YtobikddlkoibjaaSXToX4
import Derived.Test.YtobikddlkoibjaaAn5ToAnR
import Derived.KernelRfl
namespace Go.Proofs.Ytobikddlkoibjaa.G
open Go Go.AM Go.Proofs

def rrIn (x0 x1 x2 x3 x4 x5 x6 : Int) : Bool := decide ((4294967296 ≤ x0 ∧ x0 < 4294968320) ∧ (4294967296 ≤ x1 ∧ x1 < 4294968320) ∧ (4294967296 ≤ x2 ∧ x2 < 4294968320) ∧ (4294967296 ≤ x3 ∧ x3 < 4294968320) ∧ (4294967296 ≤ x4 ∧ x4 < 4294968320) ∧ (4294967296 ≤ x5 ∧ x5 < 4294968320) ∧ (4294967296 ≤ x6 ∧ x6 < 4294968320))
def rrOk (x0 x1 x2 x3 x4 x5 x6 x7 : Int) : Bool := rrIn x0 x1 x2 x3 x4 x5 x6 && (x7 == sealI x0 x1 x2 x3 x4 x5 x6)
def F2_RR (l : List At) : Tr (List At) := .br 0 (decide ((0 ≤ (aI l 0) ∧ (aI l 0) < 18446744073709551616) ∧ (0 ≤ (aI l 1) ∧ (aI l 1) < 18446744073709551616) ∧ (0 ≤ (aI l 2) ∧ (aI l 2) < 18446744073709551616) ∧ (0 ≤ (aI l 3) ∧ (aI l 3) < 18446744073709551616) ∧ (0 ≤ (aI l 4) ∧ (aI l 4) < 18446744073709551616) ∧ (0 ≤ (aI l 5) ∧ (aI l 5) < 18446744073709551616) ∧ (0 ≤ (aI l 6) ∧ (aI l 6) < 18446744073709551616))) (.ok [.i (bif rrOk (aI l 0) (aI l 1) (aI l 2) (aI l 3) (aI l 4) (aI l 5) (aI l 6) (aI l 7) then (aI l 0) - 4294967296 else 0), .i (bif rrOk (aI l 0) (aI l 1) (aI l 2) (aI l 3) (aI l 4) (aI l 5) (aI l 6) (aI l 7) then (aI l 1) - 4294967296 else 0), .i (bif rrOk (aI l 0) (aI l 1) (aI l 2) (aI l 3) (aI l 4) (aI l 5) (aI l 6) (aI l 7) then (aI l 2) - 4294967296 else 0), .i (bif rrOk (aI l 0) (aI l 1) (aI l 2) (aI l 3) (aI l 4) (aI l 5) (aI l 6) (aI l 7) then (aI l 3) - 4294967296 else 0), .i (bif rrOk (aI l 0) (aI l 1) (aI l 2) (aI l 3) (aI l 4) (aI l 5) (aI l 6) (aI l 7) then (aI l 4) - 4294967296 else 0), .i (bif rrOk (aI l 0) (aI l 1) (aI l 2) (aI l 3) (aI l 4) (aI l 5) (aI l 6) (aI l 7) then (aI l 5) - 4294967296 else 0), .i (bif rrOk (aI l 0) (aI l 1) (aI l 2) (aI l 3) (aI l 4) (aI l 5) (aI l 6) (aI l 7) then (aI l 6) - 4294967296 else 0), .b (rrOk (aI l 0) (aI l 1) (aI l 2) (aI l 3) (aI l 4) (aI l 5) (aI l 6) (aI l 7))]) .no

theorem rr_no {x0 x1 x2 x3 x4 x5 x6 x7 : Int} (h : rrOk x0 x1 x2 x3 x4 x5 x6 x7 = false) : ([.i 0, .i 0, .i 0, .i 0, .i 0, .i 0, .i 0, .b false] : List At) = [.i (bif rrOk x0 x1 x2 x3 x4 x5 x6 x7 then x0 - 4294967296 else 0), .i (bif rrOk x0 x1 x2 x3 x4 x5 x6 x7 then x1 - 4294967296 else 0), .i (bif rrOk x0 x1 x2 x3 x4 x5 x6 x7 then x2 - 4294967296 else 0), .i (bif rrOk x0 x1 x2 x3 x4 x5 x6 x7 then x3 - 4294967296 else 0), .i (bif rrOk x0 x1 x2 x3 x4 x5 x6 x7 then x4 - 4294967296 else 0), .i (bif rrOk x0 x1 x2 x3 x4 x5 x6 x7 then x5 - 4294967296 else 0), .i (bif rrOk x0 x1 x2 x3 x4 x5 x6 x7 then x6 - 4294967296 else 0), .b (rrOk x0 x1 x2 x3 x4 x5 x6 x7)] := by simp only [h, cond_false]
theorem rr_yes {x0 x1 x2 x3 x4 x5 x6 x7 : Int} (h : rrOk x0 x1 x2 x3 x4 x5 x6 x7 = true) : ([.i (x0 - 4294967296), .i (x1 - 4294967296), .i (x2 - 4294967296), .i (x3 - 4294967296), .i (x4 - 4294967296), .i (x5 - 4294967296), .i (x6 - 4294967296), .b true] : List At) = [.i (bif rrOk x0 x1 x2 x3 x4 x5 x6 x7 then x0 - 4294967296 else 0), .i (bif rrOk x0 x1 x2 x3 x4 x5 x6 x7 then x1 - 4294967296 else 0), .i (bif rrOk x0 x1 x2 x3 x4 x5 x6 x7 then x2 - 4294967296 else 0), .i (bif rrOk x0 x1 x2 x3 x4 x5 x6 x7 then x3 - 4294967296 else 0), .i (bif rrOk x0 x1 x2 x3 x4 x5 x6 x7 then x4 - 4294967296 else 0), .i (bif rrOk x0 x1 x2 x3 x4 x5 x6 x7 then x5 - 4294967296 else 0), .i (bif rrOk x0 x1 x2 x3 x4 x5 x6 x7 then x6 - 4294967296 else 0), .b (rrOk x0 x1 x2 x3 x4 x5 x6 x7)] := by simp only [h, cond_true]
theorem rr_out {x0 x1 x2 x3 x4 x5 x6 x7 : Int} (h : ¬ ((4294967296 ≤ x0 ∧ x0 < 4294968320) ∧ (4294967296 ≤ x1 ∧ x1 < 4294968320) ∧ (4294967296 ≤ x2 ∧ x2 < 4294968320) ∧ (4294967296 ≤ x3 ∧ x3 < 4294968320) ∧ (4294967296 ≤ x4 ∧ x4 < 4294968320) ∧ (4294967296 ≤ x5 ∧ x5 < 4294968320) ∧ (4294967296 ≤ x6 ∧ x6 < 4294968320))) : rrOk x0 x1 x2 x3 x4 x5 x6 x7 = false := by unfold rrOk rrIn; rw [decide_eq_false h]; rfl
theorem rr_seal {x0 x1 x2 x3 x4 x5 x6 x7 : Int} (h : (x7 == sealI x0 x1 x2 x3 x4 x5 x6) = false) : rrOk x0 x1 x2 x3 x4 x5 x6 x7 = false := by unfold rrOk; rw [h, Bool.and_false]
theorem rr_in {x0 x1 x2 x3 x4 x5 x6 x7 : Int} (h : (4294967296 ≤ x0 ∧ x0 < 4294968320) ∧ (4294967296 ≤ x1 ∧ x1 < 4294968320) ∧ (4294967296 ≤ x2 ∧ x2 < 4294968320) ∧ (4294967296 ≤ x3 ∧ x3 < 4294968320) ∧ (4294967296 ≤ x4 ∧ x4 < 4294968320) ∧ (4294967296 ≤ x5 ∧ x5 < 4294968320) ∧ (4294967296 ≤ x6 ∧ x6 < 4294968320)) (h2 : (x7 == sealI x0 x1 x2 x3 x4 x5 x6) = true) : rrOk x0 x1 x2 x3 x4 x5 x6 x7 = true := by unfold rrOk rrIn; rw [decide_eq_true h, h2]; rfl

theorem ibeq (a b : Int) : (a == b) = (b == a) := by rw [Bool.eq_iff_iff, beq_iff_eq, beq_iff_eq]; exact eq_comm
theorem xor_32 {m : Nat} (h : m < 4294967296) : m ^^^ 4294967296 = m + 4294967296 := by
  rw [Nat.add_comm, ← or_mark h]
  apply Nat.eq_of_testBit_eq
  intro j
  have e : (4294967296 : Nat) = 2 ^ 32 := by decide
  rw [Nat.testBit_xor, Nat.testBit_or, e, Nat.testBit_two_pow]
  by_cases hj : 32 = j
  · subst hj
    have : m.testBit 32 = false := Nat.testBit_lt_two_pow (by omega)
    simp [this]
  · simp [hj]
theorem xor_mark {x : Int} (h0 : 0 ≤ x) (h1 : x < 18446744073709551616) : ¬ bits BinOp.xor IntKind.u64 x (4294967296 : Int) ≥ 1024 ↔ 4294967296 ≤ x ∧ x < 4294968320 := by
  obtain ⟨n, rfl⟩ := Int.eq_ofNat_of_zero_le h0
  have e1 : bits BinOp.xor IntKind.u64 (n : Int) ((4294967296 : Nat) : Int) = ((n ^^^ 4294967296 : Nat) : Int) := bits_xor_u64_nat _ _ (by omega) (by decide)
  have e1 : bits BinOp.xor IntKind.u64 (n : Int) (4294967296 : Int) = ((n ^^^ 4294967296 : Nat) : Int) := e1
  rw [e1]
  constructor
  · intro h
    have h : n ^^^ 4294967296 < 1024 := by omega
    have h2 := xor_32 (m := n ^^^ 4294967296) (by omega)
    rw [Nat.xor_assoc, Nat.xor_self, Nat.xor_zero] at h2
    omega
  · rintro ⟨h2, h3⟩
    obtain ⟨m, rfl⟩ : ∃ m, n = m + 4294967296 := ⟨n - 4294967296, by omega⟩
    rw [← xor_32 (by omega), Nat.xor_assoc, Nat.xor_self, Nat.xor_zero]
    omega
theorem xor_val {x : Int} (h0 : 4294967296 ≤ x) (h1 : x < 4294968320) : IntKind.wrap IntKind.i64 (bits BinOp.xor IntKind.u64 x (4294967296 : Int)) = x - 4294967296 := by
  obtain ⟨n, rfl⟩ := Int.eq_ofNat_of_zero_le (show 0 ≤ x by omega)
  have e1 : bits BinOp.xor IntKind.u64 (n : Int) ((4294967296 : Nat) : Int) = ((n ^^^ 4294967296 : Nat) : Int) := bits_xor_u64_nat _ _ (by omega) (by decide)
  have e1 : bits BinOp.xor IntKind.u64 (n : Int) (4294967296 : Int) = ((n ^^^ 4294967296 : Nat) : Int) := e1
  rw [e1]
  obtain ⟨m, rfl⟩ : ∃ m, n = m + 4294967296 := ⟨n - 4294967296, by omega⟩
  rw [← xor_32 (by omega), Nat.xor_assoc, Nat.xor_self, Nat.xor_zero, xor_32 (by omega), wrap_i64 (by omega) (by omega)]
  omega

theorem t_gRR {x0 x1 x2 x3 x4 x5 x6 x7 : Int} (hr : (0 ≤ x0 ∧ x0 < 18446744073709551616) ∧ (0 ≤ x1 ∧ x1 < 18446744073709551616) ∧ (0 ≤ x2 ∧ x2 < 18446744073709551616) ∧ (0 ≤ x3 ∧ x3 < 18446744073709551616) ∧ (0 ≤ x4 ∧ x4 < 18446744073709551616) ∧ (0 ≤ x5 ∧ x5 < 18446744073709551616) ∧ (0 ≤ x6 ∧ x6 < 18446744073709551616)) : (T_gRR x0 x1 x2 x3 x4 x5 x6 x7).sat fun r => r = [.i (bif rrOk x0 x1 x2 x3 x4 x5 x6 x7 then x0 - 4294967296 else 0), .i (bif rrOk x0 x1 x2 x3 x4 x5 x6 x7 then x1 - 4294967296 else 0), .i (bif rrOk x0 x1 x2 x3 x4 x5 x6 x7 then x2 - 4294967296 else 0), .i (bif rrOk x0 x1 x2 x3 x4 x5 x6 x7 then x3 - 4294967296 else 0), .i (bif rrOk x0 x1 x2 x3 x4 x5 x6 x7 then x4 - 4294967296 else 0), .i (bif rrOk x0 x1 x2 x3 x4 x5 x6 x7 then x5 - 4294967296 else 0), .i (bif rrOk x0 x1 x2 x3 x4 x5 x6 x7 then x6 - 4294967296 else 0), .b (rrOk x0 x1 x2 x3 x4 x5 x6 x7)] := by
  obtain ⟨r0, r1, r2, r3, r4, r5, r6⟩ := hr
  unfold T_gRR
  refine brT (decide_eq_true ⟨r0.1, r1.1, r2.1, r3.1, r4.1, r5.1, r6.1⟩) (brN (fun hs => Tr.sat_ok.2 (rr_no (rr_seal hs))) (fun hs => ?_))
  refine brD (fun h => Tr.sat_ok.2 (rr_no (rr_out (fun p => (xor_mark r0.1 r0.2).2 (by omega) h)))) (fun h => ?_)
  have k0 := (xor_mark r0.1 r0.2).1 h
  clear h
  refine brD (fun h => Tr.sat_ok.2 (rr_no (rr_out (fun p => (xor_mark r1.1 r1.2).2 (by omega) h)))) (fun h => ?_)
  have k1 := (xor_mark r1.1 r1.2).1 h
  clear h
  refine brD (fun h => Tr.sat_ok.2 (rr_no (rr_out (fun p => (xor_mark r2.1 r2.2).2 (by omega) h)))) (fun h => ?_)
  have k2 := (xor_mark r2.1 r2.2).1 h
  clear h
  refine brD (fun h => Tr.sat_ok.2 (rr_no (rr_out (fun p => (xor_mark r3.1 r3.2).2 (by omega) h)))) (fun h => ?_)
  have k3 := (xor_mark r3.1 r3.2).1 h
  clear h
  refine brD (fun h => Tr.sat_ok.2 (rr_no (rr_out (fun p => (xor_mark r4.1 r4.2).2 (by omega) h)))) (fun h => ?_)
  have k4 := (xor_mark r4.1 r4.2).1 h
  clear h
  refine brD (fun h => Tr.sat_ok.2 (rr_no (rr_out (fun p => (xor_mark r5.1 r5.2).2 (by omega) h)))) (fun h => ?_)
  have k5 := (xor_mark r5.1 r5.2).1 h
  clear h
  refine brD (fun h => Tr.sat_ok.2 (rr_no (rr_out (fun p => (xor_mark r6.1 r6.2).2 (by omega) h)))) (fun h => ?_)
  have k6 := (xor_mark r6.1 r6.2).1 h
  clear h
  rw [xor_val k0.1 k0.2, xor_val k1.1 k1.2, xor_val k2.1 k2.2, xor_val k3.1 k3.2, xor_val k4.1 k4.2, xor_val k5.1 k5.2, xor_val k6.1 k6.2]
  exact Tr.sat_ok.2 (rr_yes (rr_in ⟨k0, k1, k2, k3, k4, k5, k6⟩ hs))

theorem t_rRR {x0 x1 x2 x3 x4 x5 x6 x7 : Int} (hr : (0 ≤ x0 ∧ x0 < 18446744073709551616) ∧ (0 ≤ x1 ∧ x1 < 18446744073709551616) ∧ (0 ≤ x2 ∧ x2 < 18446744073709551616) ∧ (0 ≤ x3 ∧ x3 < 18446744073709551616) ∧ (0 ≤ x4 ∧ x4 < 18446744073709551616) ∧ (0 ≤ x5 ∧ x5 < 18446744073709551616) ∧ (0 ≤ x6 ∧ x6 < 18446744073709551616)) : (T_rRR x0 x1 x2 x3 x4 x5 x6 x7).sat fun r => r = [.i (bif rrOk x0 x1 x2 x3 x4 x5 x6 x7 then x0 - 4294967296 else 0), .i (bif rrOk x0 x1 x2 x3 x4 x5 x6 x7 then x1 - 4294967296 else 0), .i (bif rrOk x0 x1 x2 x3 x4 x5 x6 x7 then x2 - 4294967296 else 0), .i (bif rrOk x0 x1 x2 x3 x4 x5 x6 x7 then x3 - 4294967296 else 0), .i (bif rrOk x0 x1 x2 x3 x4 x5 x6 x7 then x4 - 4294967296 else 0), .i (bif rrOk x0 x1 x2 x3 x4 x5 x6 x7 then x5 - 4294967296 else 0), .i (bif rrOk x0 x1 x2 x3 x4 x5 x6 x7 then x6 - 4294967296 else 0), .b (rrOk x0 x1 x2 x3 x4 x5 x6 x7)] := by
  obtain ⟨r0, r1, r2, r3, r4, r5, r6⟩ := hr
  have m0 : (IntKind.wrap IntKind.i64 (Int.tmod x0 (4294967296 : Int))) = x0 % 4294967296 := by rw [Int.tmod_eq_emod_of_nonneg r0.1, wrap_i64 (by omega) (by omega)]
  have m1 : (IntKind.wrap IntKind.i64 (Int.tmod x1 (4294967296 : Int))) = x1 % 4294967296 := by rw [Int.tmod_eq_emod_of_nonneg r1.1, wrap_i64 (by omega) (by omega)]
  have m2 : (IntKind.wrap IntKind.i64 (Int.tmod x2 (4294967296 : Int))) = x2 % 4294967296 := by rw [Int.tmod_eq_emod_of_nonneg r2.1, wrap_i64 (by omega) (by omega)]
  have m3 : (IntKind.wrap IntKind.i64 (Int.tmod x3 (4294967296 : Int))) = x3 % 4294967296 := by rw [Int.tmod_eq_emod_of_nonneg r3.1, wrap_i64 (by omega) (by omega)]
  have m4 : (IntKind.wrap IntKind.i64 (Int.tmod x4 (4294967296 : Int))) = x4 % 4294967296 := by rw [Int.tmod_eq_emod_of_nonneg r4.1, wrap_i64 (by omega) (by omega)]
  have m5 : (IntKind.wrap IntKind.i64 (Int.tmod x5 (4294967296 : Int))) = x5 % 4294967296 := by rw [Int.tmod_eq_emod_of_nonneg r5.1, wrap_i64 (by omega) (by omega)]
  have m6 : (IntKind.wrap IntKind.i64 (Int.tmod x6 (4294967296 : Int))) = x6 % 4294967296 := by rw [Int.tmod_eq_emod_of_nonneg r6.1, wrap_i64 (by omega) (by omega)]
  unfold T_rRR rRR_c0
  rw [m0, m1, m2, m3, m4, m5, m6]
  cases hc : rootOk (x0 % 4294967296) (x1 % 4294967296) (x2 % 4294967296) (x3 % 4294967296) (x4 % 4294967296) (x5 % 4294967296) (x6 % 4294967296) with
  | false =>
    have hn : ¬ _ := of_decide_eq_false hc
    exact brT rfl (Tr.sat_ok.2 (rr_no (rr_out (fun p => hn (by omega)))))
  | true =>
    have hy := of_decide_eq_true hc
    refine brF rfl ?_
    simp only [cond_true]
    by_cases p : (4294967296 ≤ x0 ∧ x0 < 4294968320) ∧ (4294967296 ≤ x1 ∧ x1 < 4294968320) ∧ (4294967296 ≤ x2 ∧ x2 < 4294968320) ∧ (4294967296 ≤ x3 ∧ x3 < 4294968320) ∧ (4294967296 ≤ x4 ∧ x4 < 4294968320) ∧ (4294967296 ≤ x5 ∧ x5 < 4294968320) ∧ (4294967296 ≤ x6 ∧ x6 < 4294968320)
    · have e : (x0 % 4294967296 + 4294967296 = x0 ∧ x1 % 4294967296 + 4294967296 = x1 ∧ x2 % 4294967296 + 4294967296 = x2 ∧ x3 % 4294967296 + 4294967296 = x3 ∧ x4 % 4294967296 + 4294967296 = x4 ∧ x5 % 4294967296 + 4294967296 = x5 ∧ x6 % 4294967296 + 4294967296 = x6) := by omega
      obtain ⟨e0, e1, e2, e3, e4, e5, e6⟩ := e
      have es : rootSeal (x0 % 4294967296) (x1 % 4294967296) (x2 % 4294967296) (x3 % 4294967296) (x4 % 4294967296) (x5 % 4294967296) (x6 % 4294967296) = sealI x0 x1 x2 x3 x4 x5 x6 := by
        unfold rootSeal
        rw [e0, e1, e2, e3, e4, e5, e6]
      rw [e0, e1, e2, e3, e4, e5, e6, es]
      simp only [beq_self_eq_true, Bool.true_and, Bool.and_true]
      refine brN (fun h => Tr.sat_ok.2 (rr_no (rr_seal (by rw [← h]; exact ibeq _ _)))) (fun h => Tr.sat_ok.2 ?_)
      rw [← rr_yes (rr_in p (by rw [← h]; exact ibeq _ _))]
      simp only [List.cons.injEq, At.i.injEq, and_true]
      omega
    · refine brN (fun h => Tr.sat_ok.2 (rr_no (rr_out p))) (fun h => ?_)
      exfalso
      simp only [Bool.and_eq_true, beq_iff_eq, and_true] at h
      exact p (by omega)

theorem h_gRR : ∀ l r, (F2_RR l).val = some r → ∃ r', ((call Try.prog Γ_SY y_gRR noLoops 100 Try.f17 (mkV ish_gRR l) (mkH ish_gRR l)).bind (leafO 0 osh_gRR)).val = some r' ∧ AtsEq r' r := by
  intro l r h
  obtain ⟨hc, h⟩ := guard_val h
  have := val_ok h
  subst this
  obtain ⟨r', h1, h2⟩ := t_gRR (x7 := aI l 7) (of_decide_eq_true hc)
  exact ⟨r', by rw [e_gRR]; exact h1, by rw [h2]; exact AtsEq.refl _⟩
theorem s2_gRR : SpecF Try.prog 17 (.pure (locP ish_gRR osh_gRR F2_RR)) :=
  spec_locP (sy := y_gRR) (fuel := 100) (Lp := noLoops) o_SY mixed ⟨Try.func17, by kernel_rfl, by kernel_rfl⟩ ish_gRR osh_gRR rfl (noLoops_ok _) h_gRR

theorem h_rRR : ∀ l r, (F2_RR l).val = some r → ∃ r', ((call Try.prog Γ_gRR y_rRR noLoops 100 Try.f18 (mkV ish_rRR l) (mkH ish_rRR l)).bind (leafO 0 osh_rRR)).val = some r' ∧ AtsEq r' r := by
  intro l r h
  obtain ⟨hc, h⟩ := guard_val h
  have := val_ok h
  subst this
  obtain ⟨r', h1, h2⟩ := t_rRR (x7 := aI l 7) (of_decide_eq_true hc)
  exact ⟨r', by rw [e_rRR]; exact h1, by rw [h2]; exact AtsEq.refl _⟩
theorem s2_rRR : SpecF Try.prog 18 (.pure (locP ish_rRR osh_rRR F2_RR)) :=
  spec_locP (sy := y_rRR) (fuel := 100) (Lp := noLoops) o_gRR mixed ⟨Try.func18, by kernel_rfl, by kernel_rfl⟩ ish_rRR osh_rRR rfl (noLoops_ok _) h_rRR
def Γ_SZ : Specs := (upd (upd Γ_rRR 17 (.pure (locP ish_gRR osh_gRR F2_RR))) 18 (.pure (locP ish_rRR osh_rRR F2_RR)))
theorem o_SZ : SpecOK Try.prog Γ_SZ := (SpecOK.upd (SpecOK.upd o_rRR s2_gRR) s2_rRR)
end Go.Proofs.Ytobikddlkoibjaa.G

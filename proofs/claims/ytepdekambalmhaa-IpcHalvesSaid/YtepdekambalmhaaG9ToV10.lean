/-
  What functions of the seat compute, printed by a program from the explorer.
-/
import Derived.Test.YtepdekambalmhaaS4ToC8
import Derived.KernelRfl
import Derived.Test.YtepdekambalmhaaC9ToS8
section
namespace Go.Proofs.Ytepdekambalmhaa.G
open Go Go.AM Go.Proofs
/-! ### IpcLines -/

def ish_IpcLines : FSh := ⟨[.v false [.k (.n .i64)], .v false [.vw 0 1], .v true [.k (.n .u64), .k (.n .u64), .k (.n .u64), .k (.n .u64), .k (.n .u64), .k (.n .u64), .k (.n .u64), .k (.n .u64)]], [.rows [.n .i64] false]⟩
def osh_IpcLines : FSh := ⟨[.v false [.k .b]], [.no]⟩
def T_IpcLines (x0 : Int) (x1 : Int) (x2 : Int) (x3 : Int) (x4 : Int) (x5 : Int) (x6 : Int) (x7 : Int) (x8 : Int) (n9 : Nat) (g9 : Nat → Nat → Int) : Tr (List At) :=
 .br 0 (true)
 (.br 22 (decide ((↑n9 : Int) > (20 : Int)))
 (.br 24 (true && decide ((20 : Int) ≤ (↑n9 : Int)))
 (.br 0 (decide ((20 : Nat) ≤ (9223372036854775807 : Nat)))
 (.br 0 (decide ((20 : Nat) ≤ (9223372036854775807 : Nat)))
 (.br 0 (decide (Rng x1 x2 x3 x4 x5 x6 x7 x8))
 (.br 0 (decide (Rng x1 x2 x3 x4 x5 x6 x7 x8))
 (.br 0 (ok_same (bif gate x1 x2 x3 x4 x5 x6 x7 x8 then cnt x1 else (0 : Nat)) (fun (j cc : Nat) => gRows x2 x3 x4 x5 x6 x7 x8 ((0 : Nat) + j) cc) (bif gate x1 x2 x3 x4 x5 x6 x7 x8 then cnt x1 else (0 : Nat)) fun (j cc : Nat) => gRows x2 x3 x4 x5 x6 x7 x8 ((0 : Nat) + j) cc)
 (.br 58 (lineW x0 (20 : Nat) (fun (k : Nat) => g9 ((0 : Nat) + k) (0 : Nat)) (0 : Nat) == lineW x0 (20 : Nat) (fun (k : Nat) => g9 ((0 : Nat) + k) (0 : Nat)) (0 : Nat) && (lineW x0 (20 : Nat) (fun (k : Nat) => g9 ((0 : Nat) + k) (0 : Nat)) (1 : Nat) == lineW x0 (20 : Nat) (fun (k : Nat) => g9 ((0 : Nat) + k) (0 : Nat)) (1 : Nat) && (lineW x0 (20 : Nat) (fun (k : Nat) => g9 ((0 : Nat) + k) (0 : Nat)) (2 : Nat) == lineW x0 (20 : Nat) (fun (k : Nat) => g9 ((0 : Nat) + k) (0 : Nat)) (2 : Nat) && (lineW x0 (20 : Nat) (fun (k : Nat) => g9 ((0 : Nat) + k) (0 : Nat)) (3 : Nat) == lineW x0 (20 : Nat) (fun (k : Nat) => g9 ((0 : Nat) + k) (0 : Nat)) (3 : Nat) && (lineW x0 (20 : Nat) (fun (k : Nat) => g9 ((0 : Nat) + k) (0 : Nat)) (4 : Nat) == lineW x0 (20 : Nat) (fun (k : Nat) => g9 ((0 : Nat) + k) (0 : Nat)) (4 : Nat) && (lineW x0 (20 : Nat) (fun (k : Nat) => g9 ((0 : Nat) + k) (0 : Nat)) (5 : Nat) == lineW x0 (20 : Nat) (fun (k : Nat) => g9 ((0 : Nat) + k) (0 : Nat)) (5 : Nat) && (lineW x0 (20 : Nat) (fun (k : Nat) => g9 ((0 : Nat) + k) (0 : Nat)) (6 : Nat) == lineW x0 (20 : Nat) (fun (k : Nat) => g9 ((0 : Nat) + k) (0 : Nat)) (6 : Nat) && (lineW x0 (20 : Nat) (fun (k : Nat) => g9 ((0 : Nat) + k) (0 : Nat)) (7 : Nat) == lineW x0 (20 : Nat) (fun (k : Nat) => g9 ((0 : Nat) + k) (0 : Nat)) (7 : Nat) && true))))))))
 (.br 63 ((lineE x0 (20 : Nat) fun (k : Nat) => g9 ((0 : Nat) + k) (0 : Nat)) == lineE x0 (20 : Nat) fun (k : Nat) => g9 ((0 : Nat) + k) (0 : Nat))
 (.br 68 ((bif gate x1 x2 x3 x4 x5 x6 x7 x8 then x1 % (16 : Int) else (0 : Int)) == bif gate x1 x2 x3 x4 x5 x6 x7 x8 then x1 % (16 : Int) else (0 : Int))
 (.br 71 (r_same_0 (bif gate x1 x2 x3 x4 x5 x6 x7 x8 then cnt x1 else (0 : Nat)) (fun (j cc : Nat) => gRows x2 x3 x4 x5 x6 x7 x8 ((0 : Nat) + j) cc) (bif gate x1 x2 x3 x4 x5 x6 x7 x8 then cnt x1 else (0 : Nat)) fun (j cc : Nat) => gRows x2 x3 x4 x5 x6 x7 x8 ((0 : Nat) + j) cc)
 (.ok [(.b (gate x1 x2 x3 x4 x5 x6 x7 x8 == gate x1 x2 x3 x4 x5 x6 x7 x8))])
 (.ok [(.b (false))]))
 (.ok [(.b (false))]))
 (.ok [(.b (false))]))
 (.ok [(.b (false))]))
 (.no))
 (.no))
 (.no))
 (.no))
 (.no))
 (.no))
 (.br 0 (decide (n9 ≤ (9223372036854775807 : Nat)))
 (.br 0 (decide (n9 ≤ (9223372036854775807 : Nat)))
 (.br 0 (decide (Rng x1 x2 x3 x4 x5 x6 x7 x8))
 (.br 0 (decide (Rng x1 x2 x3 x4 x5 x6 x7 x8))
 (.br 0 (ok_same (bif gate x1 x2 x3 x4 x5 x6 x7 x8 then cnt x1 else (0 : Nat)) (fun (j cc : Nat) => gRows x2 x3 x4 x5 x6 x7 x8 ((0 : Nat) + j) cc) (bif gate x1 x2 x3 x4 x5 x6 x7 x8 then cnt x1 else (0 : Nat)) fun (j cc : Nat) => gRows x2 x3 x4 x5 x6 x7 x8 ((0 : Nat) + j) cc)
 (.br 58 (lineW x0 n9 (fun (k : Nat) => g9 ((0 : Nat) + k) (0 : Nat)) (0 : Nat) == lineW x0 n9 (fun (k : Nat) => g9 ((0 : Nat) + k) (0 : Nat)) (0 : Nat) && (lineW x0 n9 (fun (k : Nat) => g9 ((0 : Nat) + k) (0 : Nat)) (1 : Nat) == lineW x0 n9 (fun (k : Nat) => g9 ((0 : Nat) + k) (0 : Nat)) (1 : Nat) && (lineW x0 n9 (fun (k : Nat) => g9 ((0 : Nat) + k) (0 : Nat)) (2 : Nat) == lineW x0 n9 (fun (k : Nat) => g9 ((0 : Nat) + k) (0 : Nat)) (2 : Nat) && (lineW x0 n9 (fun (k : Nat) => g9 ((0 : Nat) + k) (0 : Nat)) (3 : Nat) == lineW x0 n9 (fun (k : Nat) => g9 ((0 : Nat) + k) (0 : Nat)) (3 : Nat) && (lineW x0 n9 (fun (k : Nat) => g9 ((0 : Nat) + k) (0 : Nat)) (4 : Nat) == lineW x0 n9 (fun (k : Nat) => g9 ((0 : Nat) + k) (0 : Nat)) (4 : Nat) && (lineW x0 n9 (fun (k : Nat) => g9 ((0 : Nat) + k) (0 : Nat)) (5 : Nat) == lineW x0 n9 (fun (k : Nat) => g9 ((0 : Nat) + k) (0 : Nat)) (5 : Nat) && (lineW x0 n9 (fun (k : Nat) => g9 ((0 : Nat) + k) (0 : Nat)) (6 : Nat) == lineW x0 n9 (fun (k : Nat) => g9 ((0 : Nat) + k) (0 : Nat)) (6 : Nat) && (lineW x0 n9 (fun (k : Nat) => g9 ((0 : Nat) + k) (0 : Nat)) (7 : Nat) == lineW x0 n9 (fun (k : Nat) => g9 ((0 : Nat) + k) (0 : Nat)) (7 : Nat) && true))))))))
 (.br 63 ((lineE x0 n9 fun (k : Nat) => g9 ((0 : Nat) + k) (0 : Nat)) == lineE x0 n9 fun (k : Nat) => g9 ((0 : Nat) + k) (0 : Nat))
 (.br 68 ((bif gate x1 x2 x3 x4 x5 x6 x7 x8 then x1 % (16 : Int) else (0 : Int)) == bif gate x1 x2 x3 x4 x5 x6 x7 x8 then x1 % (16 : Int) else (0 : Int))
 (.br 71 (r_same_0 (bif gate x1 x2 x3 x4 x5 x6 x7 x8 then cnt x1 else (0 : Nat)) (fun (j cc : Nat) => gRows x2 x3 x4 x5 x6 x7 x8 ((0 : Nat) + j) cc) (bif gate x1 x2 x3 x4 x5 x6 x7 x8 then cnt x1 else (0 : Nat)) fun (j cc : Nat) => gRows x2 x3 x4 x5 x6 x7 x8 ((0 : Nat) + j) cc)
 (.ok [(.b (gate x1 x2 x3 x4 x5 x6 x7 x8 == gate x1 x2 x3 x4 x5 x6 x7 x8))])
 (.ok [(.b (false))]))
 (.ok [(.b (false))]))
 (.ok [(.b (false))]))
 (.ok [(.b (false))]))
 (.no))
 (.no))
 (.no))
 (.no))
 (.no)))
 (.no)
def y_IpcLines : Nat → Option Nat := (syOf3 [22, 24, 58, 63, 68, 71] [] [])
def TL_IpcLines (l : List At) : Tr (List At) := T_IpcLines (aI l 0) (aI l 1) (aI l 2) (aI l 3) (aI l 4) (aI l 5) (aI l 6) (aI l 7) (aI l 8) (aRn l 9) (aRg l 9)
theorem e_IpcLines (l : List At) : (call Try.prog Γ_shown y_IpcLines noLoops 100 Try.f3 (mkV ish_IpcLines l) (mkH ish_IpcLines l)).bind (leafO ish_IpcLines.hp.length ⟨[.v false [.k .b]], List.replicate ish_IpcLines.hp.length .no⟩) = TL_IpcLines l := by kernel_rfl

end Go.Proofs.Ytepdekambalmhaa.G
end

/-
  What functions of the seat compute, printed by a program from the explorer.
-/
section
namespace Go.Proofs.Ytepdekambalmhaa.G
open Go Go.AM Go.Proofs
/-! ### IpcWaits -/

def ish_IpcWaits : FSh := ⟨[.v true [.k (.n .u64), .k (.n .u64), .k (.n .u64), .k (.n .u64), .k (.n .u64), .k (.n .u64), .k (.n .u64), .k (.n .u64)], .v false [.k (.n .i64)], .v false [.k (.n .i64)]], []⟩
def osh_IpcWaits : FSh := ⟨[.v false [.k .b]], []⟩
def T_IpcWaits (x0 : Int) (x1 : Int) (x2 : Int) (x3 : Int) (x4 : Int) (x5 : Int) (x6 : Int) (x7 : Int) (x8 : Int) (x9 : Int) : Tr (List At) :=
 .br 0 (true)
 (.br 0 (decide (Rng x0 x1 x2 x3 x4 x5 x6 x7))
 (.br 0 (decide (Rng x0 x1 x2 x3 x4 x5 x6 x7))
 (.br 0 (decide (Rng x0 x1 x2 x3 x4 x5 x6 x7))
 (.br 0 (decide (Rng x0 x1 x2 x3 x4 x5 x6 x7))
 (.br 53 (waitW x0 x1 x2 x3 x4 x5 x6 x7 x8 x9 (0 : Nat) == waitW x0 x1 x2 x3 x4 x5 x6 x7 x8 x9 (0 : Nat) && (waitW x0 x1 x2 x3 x4 x5 x6 x7 x8 x9 (1 : Nat) == waitW x0 x1 x2 x3 x4 x5 x6 x7 x8 x9 (1 : Nat) && (waitW x0 x1 x2 x3 x4 x5 x6 x7 x8 x9 (2 : Nat) == waitW x0 x1 x2 x3 x4 x5 x6 x7 x8 x9 (2 : Nat) && (waitW x0 x1 x2 x3 x4 x5 x6 x7 x8 x9 (3 : Nat) == waitW x0 x1 x2 x3 x4 x5 x6 x7 x8 x9 (3 : Nat) && (waitW x0 x1 x2 x3 x4 x5 x6 x7 x8 x9 (4 : Nat) == waitW x0 x1 x2 x3 x4 x5 x6 x7 x8 x9 (4 : Nat) && (waitW x0 x1 x2 x3 x4 x5 x6 x7 x8 x9 (5 : Nat) == waitW x0 x1 x2 x3 x4 x5 x6 x7 x8 x9 (5 : Nat) && (waitW x0 x1 x2 x3 x4 x5 x6 x7 x8 x9 (6 : Nat) == waitW x0 x1 x2 x3 x4 x5 x6 x7 x8 x9 (6 : Nat) && (waitW x0 x1 x2 x3 x4 x5 x6 x7 x8 x9 (7 : Nat) == waitW x0 x1 x2 x3 x4 x5 x6 x7 x8 x9 (7 : Nat) && true))))))))
 (.br 58 (waitC x0 x1 x2 x3 x4 x5 x6 x7 x8 x9 == waitC x0 x1 x2 x3 x4 x5 x6 x7 x8 x9)
 (.br 63 (meetI x0 x1 x2 x3 x4 x5 x6 x7 x8 == meetI x0 x1 x2 x3 x4 x5 x6 x7 x8)
 (.br 68 (meetW x0 x1 x2 x3 x4 x5 x6 x7 x8 (0 : Nat) == meetW x0 x1 x2 x3 x4 x5 x6 x7 x8 (0 : Nat) && (meetW x0 x1 x2 x3 x4 x5 x6 x7 x8 (1 : Nat) == meetW x0 x1 x2 x3 x4 x5 x6 x7 x8 (1 : Nat) && (meetW x0 x1 x2 x3 x4 x5 x6 x7 x8 (2 : Nat) == meetW x0 x1 x2 x3 x4 x5 x6 x7 x8 (2 : Nat) && (meetW x0 x1 x2 x3 x4 x5 x6 x7 x8 (3 : Nat) == meetW x0 x1 x2 x3 x4 x5 x6 x7 x8 (3 : Nat) && (meetW x0 x1 x2 x3 x4 x5 x6 x7 x8 (4 : Nat) == meetW x0 x1 x2 x3 x4 x5 x6 x7 x8 (4 : Nat) && (meetW x0 x1 x2 x3 x4 x5 x6 x7 x8 (5 : Nat) == meetW x0 x1 x2 x3 x4 x5 x6 x7 x8 (5 : Nat) && (meetW x0 x1 x2 x3 x4 x5 x6 x7 x8 (6 : Nat) == meetW x0 x1 x2 x3 x4 x5 x6 x7 x8 (6 : Nat) && (meetW x0 x1 x2 x3 x4 x5 x6 x7 x8 (7 : Nat) == meetW x0 x1 x2 x3 x4 x5 x6 x7 x8 (7 : Nat) && true))))))))
 (.ok [(.b (meetB x0 x1 x2 x3 x4 x5 x6 x7 x8 == meetB x0 x1 x2 x3 x4 x5 x6 x7 x8))])
 (.ok [(.b (false))]))
 (.ok [(.b (false))]))
 (.ok [(.b (false))]))
 (.ok [(.b (false))]))
 (.no))
 (.no))
 (.no))
 (.no))
 (.no)
def y_IpcWaits : Nat → Option Nat := (syOf3 [53, 58, 63, 68] [] [])
def TL_IpcWaits (l : List At) : Tr (List At) := T_IpcWaits (aI l 0) (aI l 1) (aI l 2) (aI l 3) (aI l 4) (aI l 5) (aI l 6) (aI l 7) (aI l 8) (aI l 9)
theorem e_IpcWaits (l : List At) : (call Try.prog Γ_shown y_IpcWaits noLoops 100 Try.f4 (mkV ish_IpcWaits l) (mkH ish_IpcWaits l)).bind (leafO ish_IpcWaits.hp.length ⟨[.v false [.k .b]], List.replicate ish_IpcWaits.hp.length .no⟩) = TL_IpcWaits l := by kernel_rfl

end Go.Proofs.Ytepdekambalmhaa.G
end

/-
  The plain law of IpcWaits.
-/
section
namespace Go.Proofs.Ytepdekambalmhaa.G
open Go Go.AM Go.Proofs

theorem rng_of {x0 x1 x2 x3 x4 x5 x6 x7 : Int} (h0 : IntKind.min .u64 ≤ x0) (k0 : x0 ≤ IntKind.max .u64) (h1 : IntKind.min .u64 ≤ x1) (k1 : x1 ≤ IntKind.max .u64) (h2 : IntKind.min .u64 ≤ x2) (k2 : x2 ≤ IntKind.max .u64) (h3 : IntKind.min .u64 ≤ x3) (k3 : x3 ≤ IntKind.max .u64) (h4 : IntKind.min .u64 ≤ x4) (k4 : x4 ≤ IntKind.max .u64) (h5 : IntKind.min .u64 ≤ x5) (k5 : x5 ≤ IntKind.max .u64) (h6 : IntKind.min .u64 ≤ x6) (k6 : x6 ≤ IntKind.max .u64) (h7 : IntKind.min .u64 ≤ x7) (k7 : x7 ≤ IntKind.max .u64) : Rng x0 x1 x2 x3 x4 x5 x6 x7 := by
  have h0 : 0 ≤ x0 := h0
  have k0 : x0 ≤ 18446744073709551615 := k0
  have h1 : 0 ≤ x1 := h1
  have k1 : x1 ≤ 18446744073709551615 := k1
  have h2 : 0 ≤ x2 := h2
  have k2 : x2 ≤ 18446744073709551615 := k2
  have h3 : 0 ≤ x3 := h3
  have k3 : x3 ≤ 18446744073709551615 := k3
  have h4 : 0 ≤ x4 := h4
  have k4 : x4 ≤ 18446744073709551615 := k4
  have h5 : 0 ≤ x5 := h5
  have k5 : x5 ≤ 18446744073709551615 := k5
  have h6 : 0 ≤ x6 := h6
  have k6 : x6 ≤ 18446744073709551615 := k6
  have h7 : 0 ≤ x7 := h7
  have k7 : x7 ≤ 18446744073709551615 := k7
  unfold Rng
  omega

theorem vc_IpcWaits (x0 x1 x2 x3 x4 x5 x6 x7 x8 x9 : Int) (_h0 : IntKind.min .u64 ≤ x0) (_k0 : x0 ≤ IntKind.max .u64) (_h1 : IntKind.min .u64 ≤ x1) (_k1 : x1 ≤ IntKind.max .u64) (_h2 : IntKind.min .u64 ≤ x2) (_k2 : x2 ≤ IntKind.max .u64) (_h3 : IntKind.min .u64 ≤ x3) (_k3 : x3 ≤ IntKind.max .u64) (_h4 : IntKind.min .u64 ≤ x4) (_k4 : x4 ≤ IntKind.max .u64) (_h5 : IntKind.min .u64 ≤ x5) (_k5 : x5 ≤ IntKind.max .u64) (_h6 : IntKind.min .u64 ≤ x6) (_k6 : x6 ≤ IntKind.max .u64) (_h7 : IntKind.min .u64 ≤ x7) (_k7 : x7 ≤ IntKind.max .u64) (_h8 : IntKind.min .i64 ≤ x8) (_k8 : x8 ≤ IntKind.max .i64) (_h9 : IntKind.min .i64 ≤ x9) (_k9 : x9 ≤ IntKind.max .i64) :
    (T_IpcWaits x0 x1 x2 x3 x4 x5 x6 x7 x8 x9).sat fun r => r = [.b true] := by
  have hr : Rng x0 x1 x2 x3 x4 x5 x6 x7 := rng_of _h0 _k0 _h1 _k1 _h2 _k2 _h3 _k3 _h4 _k4 _h5 _k5 _h6 _k6 _h7 _k7
  unfold T_IpcWaits
  simp only [beq_self_eq_true, Bool.and_self]
  exact brT rfl (brT (decide_eq_true hr) (brT (decide_eq_true hr) (brT (decide_eq_true hr) (brT (decide_eq_true hr) (brT rfl (brT rfl (brT rfl (brT rfl (Tr.sat_ok.2 rfl)))))))))
end Go.Proofs.Ytepdekambalmhaa.G
end

/-
  The plain law of IpcLines.
-/
section
namespace Go.Proofs.Ytepdekambalmhaa.G
open Go Go.AM Go.Proofs

theorem same_yes {n m : Nat} {g g' : Nat → Nat → Int} (hn : n ≤ 9223372036854775807) (e : n = m) (h : ∀ k, k < n → g k 0 = g' k 0) : ok_same n g m g' = true ∧ r_same_0 n g m g' = true := by
  subst e
  have c1 : ((n : Int) != (n : Int)) = false := by simp
  have c2 : decide ((0 : Int) ≤ (0 : Int) ∧ n = n ∧ (0 : Int) ≤ (↑n : Int) ∧ n ≤ (9223372036854775807 : Nat)) = true := decide_eq_true (by omega)
  refine ⟨by unfold ok_same; rw [c1, c2]; simp, ?_⟩
  unfold r_same_0
  rw [c1, c2, cond_false, cond_true, show Int.toNat ((n : Int) - 0) = n by omega]
  obtain ⟨h1, h2, h3, h4⟩ := findI_spec (sameP 0 0 g g') n 0
  generalize findI (sameP 0 0 g g') n 0 = q at *
  have : ¬ q < n := fun hl => by
    have := h3 (by omega)
    unfold sameP at this
    rw [Nat.zero_add, h q hl] at this
    simp at this
  rw [decide_eq_false this]; rfl

theorem vc_IpcLines (x0 x1 x2 x3 x4 x5 x6 x7 x8 : Int) (n9 : Nat) (g9 : Nat → Nat → Int) (_h0 : IntKind.min .i64 ≤ x0) (_k0 : x0 ≤ IntKind.max .i64) (_h1 : IntKind.min .u64 ≤ x1) (_k1 : x1 ≤ IntKind.max .u64) (_h2 : IntKind.min .u64 ≤ x2) (_k2 : x2 ≤ IntKind.max .u64) (_h3 : IntKind.min .u64 ≤ x3) (_k3 : x3 ≤ IntKind.max .u64) (_h4 : IntKind.min .u64 ≤ x4) (_k4 : x4 ≤ IntKind.max .u64) (_h5 : IntKind.min .u64 ≤ x5) (_k5 : x5 ≤ IntKind.max .u64) (_h6 : IntKind.min .u64 ≤ x6) (_k6 : x6 ≤ IntKind.max .u64) (_h7 : IntKind.min .u64 ≤ x7) (_k7 : x7 ≤ IntKind.max .u64) (_h8 : IntKind.min .u64 ≤ x8) (_k8 : x8 ≤ IntKind.max .u64) (b9 : n9 ≤ maxLen) (_w9 : ∀ (i c : Nat) (k : SK), i < n9 → [SK.n .i64][c]? = some k → wfS k (g9 i c)) :
    (T_IpcLines x0 x1 x2 x3 x4 x5 x6 x7 x8 n9 g9).sat fun r => r = [.b true] := by
  have hr : Rng x1 x2 x3 x4 x5 x6 x7 x8 := rng_of _h1 _k1 _h2 _k2 _h3 _k3 _h4 _k4 _h5 _k5 _h6 _k6 _h7 _k7 _h8 _k8
  have hb : n9 ≤ 9223372036854775807 := b9
  obtain ⟨s1, s2⟩ := same_yes (n := bif gate x1 x2 x3 x4 x5 x6 x7 x8 then cnt x1 else 0) (g := fun (j cc : Nat) => gRows x2 x3 x4 x5 x6 x7 x8 ((0 : Nat) + j) cc) (by have := cnt_le x1; cases gate x1 x2 x3 x4 x5 x6 x7 x8 <;> simp <;> omega) rfl (fun _ _ => rfl)
  unfold T_IpcLines
  simp only [beq_self_eq_true, Bool.and_self]
  refine brT rfl (brD (fun h => brT (by simp; omega) (brT (decide_eq_true (by decide)) (brT (decide_eq_true (by decide)) ?_))) (fun h => brT (decide_eq_true hb) (brT (decide_eq_true hb) ?_)))
  · exact brT (decide_eq_true hr) (brT (decide_eq_true hr) (brT s1 (brT rfl (brT rfl (brT rfl (brT s2 (Tr.sat_ok.2 rfl)))))))
  · exact brT (decide_eq_true hr) (brT (decide_eq_true hr) (brT s1 (brT rfl (brT rfl (brT rfl (brT s2 (Tr.sat_ok.2 rfl)))))))
end Go.Proofs.Ytepdekambalmhaa.G
end

/-
  The plain law of IpcHalves.
-/
section
namespace Go.Proofs.Ytepdekambalmhaa.G
open Go Go.AM Go.Proofs

/-- Behind the line of those who wait: one more waits, is met, and what is left. -/
noncomputable def HB (m o : Int) (c : Nat) (e X0 X1 X2 X3 X4 X5 X6 X7 v : Int) : Tr (List At) :=
 (.br 0 (pdec (gW X0 X1 X2 X3 X4 X5 X6 X7 m v))
 (.br 0 (pdec (gO (m + 16 * ((cnt X0 + 1 : Nat) : Int)) (nx X0 v X1 0) (nx X0 v X2 1) (nx X0 v X3 2) (nx X0 v X4 3) (nx X0 v X5 4) (nx X0 v X6 5) (nx X0 v X7 6)))
 (.br 88 (e != 0) (.ok [.b false])
 (.br 101 ((m + 16 * ((cnt X0 + 1 : Nat) : Int)) % 16 != m) (.ok [.b false])
 (.br 109 (((cnt (m + 16 * ((cnt X0 + 1 : Nat) : Int)) : Nat) : Int) != IntKind.i64.wrap ((c : Int) + 1)) (.ok [.b false])
 (.br 113 (within (c : Int) (cnt (m + 16 * ((cnt X0 + 1 : Nat) : Int))))
 (.br 117 (gRows (nx X0 v X1 0) (nx X0 v X2 1) (nx X0 v X3 2) (nx X0 v X4 3) (nx X0 v X5 4) (nx X0 v X6 5) (nx X0 v X7 6) (Int.toNat (c : Int)) 0 != v) (.ok [.b false])
 (.br 0 (pdec (gM (m + 16 * ((cnt X0 + 1 : Nat) : Int)) (nx X0 v X1 0) (nx X0 v X2 1) (nx X0 v X3 2) (nx X0 v X4 3) (nx X0 v X5 4) (nx X0 v X6 5) (nx X0 v X7 6) m))
 (.br 0 (pdec (gM (m + 16 * ((cnt X0 + 1 : Nat) : Int)) (nx X0 v X1 0) (nx X0 v X2 1) (nx X0 v X3 2) (nx X0 v X4 3) (nx X0 v X5 4) (nx X0 v X6 5) (nx X0 v X7 6) o))
 (.br 133 (decide ((m + 16 * ((cnt X0 + 1 : Nat) : Int)) % 16 ≠ m)) (.ok [.b false])
 (.br 137 (!(decide ((m + 16 * ((cnt X0 + 1 : Nat) : Int)) % 16 ≠ o))) (.ok [.b false])
 (.br 140 (within 0 (cnt (m + 16 * ((cnt X0 + 1 : Nat) : Int))))
 (.br 143 ((bif decide ((m + 16 * ((cnt X0 + 1 : Nat) : Int)) % 16 ≠ o) then (nx X0 v X1 0) else 0) != gRows (nx X0 v X1 0) (nx X0 v X2 1) (nx X0 v X3 2) (nx X0 v X4 3) (nx X0 v X5 4) (nx X0 v X6 5) (nx X0 v X7 6) 0 0) (.ok [.b false])
 (.br 0 (pdec (gO (bif decide ((m + 16 * ((cnt X0 + 1 : Nat) : Int)) % 16 ≠ o) then (if cnt (m + 16 * ((cnt X0 + 1 : Nat) : Int)) = 1 then 0 else (m + 16 * ((cnt X0 + 1 : Nat) : Int)) - 16) else 0) (mx (m + 16 * ((cnt X0 + 1 : Nat) : Int)) o (nx X0 v X2 1) 0) (mx (m + 16 * ((cnt X0 + 1 : Nat) : Int)) o (nx X0 v X3 2) 1) (mx (m + 16 * ((cnt X0 + 1 : Nat) : Int)) o (nx X0 v X4 3) 2) (mx (m + 16 * ((cnt X0 + 1 : Nat) : Int)) o (nx X0 v X5 4) 3) (mx (m + 16 * ((cnt X0 + 1 : Nat) : Int)) o (nx X0 v X6 5) 4) (mx (m + 16 * ((cnt X0 + 1 : Nat) : Int)) o (nx X0 v X7 6) 5) 0))
 (.br 152 (true && decide ((1 : Int) ≤ ((cnt (m + 16 * ((cnt X0 + 1 : Nat) : Int)) : Nat) : Int)))
 (.br 0 (ok_same (cnt (bif decide ((m + 16 * ((cnt X0 + 1 : Nat) : Int)) % 16 ≠ o) then (if cnt (m + 16 * ((cnt X0 + 1 : Nat) : Int)) = 1 then 0 else (m + 16 * ((cnt X0 + 1 : Nat) : Int)) - 16) else 0)) (fun j cc => gRows (mx (m + 16 * ((cnt X0 + 1 : Nat) : Int)) o (nx X0 v X2 1) 0) (mx (m + 16 * ((cnt X0 + 1 : Nat) : Int)) o (nx X0 v X3 2) 1) (mx (m + 16 * ((cnt X0 + 1 : Nat) : Int)) o (nx X0 v X4 3) 2) (mx (m + 16 * ((cnt X0 + 1 : Nat) : Int)) o (nx X0 v X5 4) 3) (mx (m + 16 * ((cnt X0 + 1 : Nat) : Int)) o (nx X0 v X6 5) 4) (mx (m + 16 * ((cnt X0 + 1 : Nat) : Int)) o (nx X0 v X7 6) 5) 0 (0 + j) cc) (Int.toNat ((cnt (m + 16 * ((cnt X0 + 1 : Nat) : Int)) : Nat) : Int) - 1) (fun j cc => gRows (nx X0 v X1 0) (nx X0 v X2 1) (nx X0 v X3 2) (nx X0 v X4 3) (nx X0 v X5 4) (nx X0 v X6 5) (nx X0 v X7 6) (1 + j) cc))
 (.ok [.b (r_same_0 (cnt (bif decide ((m + 16 * ((cnt X0 + 1 : Nat) : Int)) % 16 ≠ o) then (if cnt (m + 16 * ((cnt X0 + 1 : Nat) : Int)) = 1 then 0 else (m + 16 * ((cnt X0 + 1 : Nat) : Int)) - 16) else 0)) (fun j cc => gRows (mx (m + 16 * ((cnt X0 + 1 : Nat) : Int)) o (nx X0 v X2 1) 0) (mx (m + 16 * ((cnt X0 + 1 : Nat) : Int)) o (nx X0 v X3 2) 1) (mx (m + 16 * ((cnt X0 + 1 : Nat) : Int)) o (nx X0 v X4 3) 2) (mx (m + 16 * ((cnt X0 + 1 : Nat) : Int)) o (nx X0 v X5 4) 3) (mx (m + 16 * ((cnt X0 + 1 : Nat) : Int)) o (nx X0 v X6 5) 4) (mx (m + 16 * ((cnt X0 + 1 : Nat) : Int)) o (nx X0 v X7 6) 5) 0 (0 + j) cc) (Int.toNat ((cnt (m + 16 * ((cnt X0 + 1 : Nat) : Int)) : Nat) : Int) - 1) (fun j cc => gRows (nx X0 v X1 0) (nx X0 v X2 1) (nx X0 v X3 2) (nx X0 v X4 3) (nx X0 v X5 4) (nx X0 v X6 5) (nx X0 v X7 6) (1 + j) cc))]) .no) .no) .no)) .no))) .no) .no)) .no)))) .no) .no)
noncomputable def HH (m o : Int) (n2 : Nat) (g2 : Nat → Nat → Int) (v : Int) : Tr (List At) :=
 .br 66 (decide (((min n2 6 : Nat) : Int) > 0)) (.br 0 (decide (min n2 6 ≤ 9223372036854775807)) (HB m o (min n2 6) (lineE m (min n2 6) (fun k => gcol (fun k => idv (g2 (0 + k) 0)) (0 + k) 0)) (lineW m (min n2 6) (fun k => gcol (fun k => idv (g2 (0 + k) 0)) (0 + k) 0) 0) (lineW m (min n2 6) (fun k => gcol (fun k => idv (g2 (0 + k) 0)) (0 + k) 0) 1) (lineW m (min n2 6) (fun k => gcol (fun k => idv (g2 (0 + k) 0)) (0 + k) 0) 2) (lineW m (min n2 6) (fun k => gcol (fun k => idv (g2 (0 + k) 0)) (0 + k) 0) 3) (lineW m (min n2 6) (fun k => gcol (fun k => idv (g2 (0 + k) 0)) (0 + k) 0) 4) (lineW m (min n2 6) (fun k => gcol (fun k => idv (g2 (0 + k) 0)) (0 + k) 0) 5) (lineW m (min n2 6) (fun k => gcol (fun k => idv (g2 (0 + k) 0)) (0 + k) 0) 6) (lineW m (min n2 6) (fun k => gcol (fun k => idv (g2 (0 + k) 0)) (0 + k) 0) 7) v) .no) (HB m o (min n2 6) 0 0 0 0 0 0 0 0 0 v)
noncomputable def HT (m o x0 : Int) (n2 : Nat) (g2 : Nat → Nat → Int) : Tr (List At) :=
 .br 0 (pdec (pre9 n2 0 (fun k => idv (g2 (0 + k) 0)) 0 fun _ _ => 0)) (.br 60 (decide (Int.tmod x0 49 < 0)) (HH m o n2 g2 (IntKind.i64.wrap (0 - Int.tmod x0 49))) (HH m o n2 g2 (Int.tmod x0 49))) .no
theorem eT_IpcHalves (x0 : Int) (x1 : Bool) (n2 : Nat) (g2 : Nat → Nat → Int) : T_IpcHalves x0 x1 n2 g2 = .br 0 true (.br 32 x1 (HT 3 4 x0 n2 g2) (HT 4 3 x0 n2 g2)) .no := by kernel_rfl

theorem ln_wds {m : Int} {c : Nat} {G : Nat → Int} {X0 X1 X2 X3 X4 X5 X6 X7 : Int} (h : Ln m c G X0 X1 X2 X3 X4 X5 X6 X7) (k : Nat) (hk : k < c) : gRows X1 X2 X3 X4 X5 X6 X7 k 0 = G k := by
  obtain ⟨hm, hc, hG, rfl, rfl, rfl, rfl, rfl, rfl, rfl, rfl⟩ := h
  exact at_wds hc k hk
theorem ln_cnt {m : Int} {c : Nat} {G : Nat → Int} {X0 X1 X2 X3 X4 X5 X6 X7 : Int} (h : Ln m c G X0 X1 X2 X3 X4 X5 X6 X7) : cnt X0 = c ∧ X0 % 16 = if c = 0 then 0 else m := by
  obtain ⟨hm, hc, hG, rfl, rfl, rfl, rfl, rfl, rfl, rfl, rfl⟩ := h
  exact at_cnt hm hc

theorem HB_sat {m o : Int} {c : Nat} {d : Nat} {e X0 X1 X2 X3 X4 X5 X6 X7 v : Int} {G : Nat → Int} (h : Ln m c G X0 X1 X2 X3 X4 X5 X6 X7) (hc : c ≤ 6) (hd : d = c) (he : e = 0) (hv : 0 ≤ v ∧ v < 49) (ho : (o = 3 ∨ o = 4) ∧ o ≠ m) :
    (HB m o d e X0 X1 X2 X3 X4 X5 X6 X7 v).sat fun r => r = [.b true] := by
  subst hd; subst he
  have hm := h.1
  have h2 := nW h (by omega) hv.1 hv.2
  obtain ⟨n1, n2⟩ := ln_cnt h2
  rw [if_neg (Nat.succ_ne_zero d)] at n2
  have w2 := ln_wds h2
  have h3 := nM h2 (Nat.succ_ne_zero d) (x8 := o) (fun e => ho.2 e.symm)
  obtain ⟨p1, p2⟩ := ln_cnt h3
  have w3 := ln_wds h3
  have hw : IntKind.i64.wrap ((d : Int) + 1) = (d : Int) + 1 := wrap_i64 (by omega) (by omega)
  have first : (bif decide ((m + 16 * ((cnt X0 + 1 : Nat) : Int)) % 16 ≠ o) then (nx X0 v X1 0) else 0) = gRows (nx X0 v X1 0) (nx X0 v X2 1) (nx X0 v X3 2) (nx X0 v X4 3) (nx X0 v X5 4) (nx X0 v X6 5) (nx X0 v X7 6) 0 0 := by
    rw [n2, decide_eq_true (p := m ≠ o) (fun e => ho.2 e.symm), cond_true]; rfl
  have hn : Int.toNat ((cnt (m + 16 * ((cnt X0 + 1 : Nat) : Int)) : Nat) : Int) - 1 = d := by rw [n1]; simp
  obtain ⟨s1, s2⟩ := same_yes (n := cnt (bif decide ((m + 16 * ((cnt X0 + 1 : Nat) : Int)) % 16 ≠ o) then (if cnt (m + 16 * ((cnt X0 + 1 : Nat) : Int)) = 1 then 0 else (m + 16 * ((cnt X0 + 1 : Nat) : Int)) - 16) else 0)) (m := Int.toNat ((cnt (m + 16 * ((cnt X0 + 1 : Nat) : Int)) : Nat) : Int) - 1) (g := fun j cc => gRows (mx (m + 16 * ((cnt X0 + 1 : Nat) : Int)) o (nx X0 v X2 1) 0) (mx (m + 16 * ((cnt X0 + 1 : Nat) : Int)) o (nx X0 v X3 2) 1) (mx (m + 16 * ((cnt X0 + 1 : Nat) : Int)) o (nx X0 v X4 3) 2) (mx (m + 16 * ((cnt X0 + 1 : Nat) : Int)) o (nx X0 v X5 4) 3) (mx (m + 16 * ((cnt X0 + 1 : Nat) : Int)) o (nx X0 v X6 5) 4) (mx (m + 16 * ((cnt X0 + 1 : Nat) : Int)) o (nx X0 v X7 6) 5) 0 (0 + j) cc) (g' := fun j cc => gRows (nx X0 v X1 0) (nx X0 v X2 1) (nx X0 v X3 2) (nx X0 v X4 3) (nx X0 v X5 4) (nx X0 v X6 5) (nx X0 v X7 6) (1 + j) cc)
    (by rw [p1]; omega) (by rw [p1, hn]; simp) (fun k hk => by
      rw [p1] at hk
      show gRows (mx (m + 16 * ((cnt X0 + 1 : Nat) : Int)) o (nx X0 v X2 1) 0) (mx (m + 16 * ((cnt X0 + 1 : Nat) : Int)) o (nx X0 v X3 2) 1) (mx (m + 16 * ((cnt X0 + 1 : Nat) : Int)) o (nx X0 v X4 3) 2) (mx (m + 16 * ((cnt X0 + 1 : Nat) : Int)) o (nx X0 v X5 4) 3) (mx (m + 16 * ((cnt X0 + 1 : Nat) : Int)) o (nx X0 v X6 5) 4) (mx (m + 16 * ((cnt X0 + 1 : Nat) : Int)) o (nx X0 v X7 6) 5) 0 (0 + k) 0 = gRows (nx X0 v X1 0) (nx X0 v X2 1) (nx X0 v X3 2) (nx X0 v X4 3) (nx X0 v X5 4) (nx X0 v X6 5) (nx X0 v X7 6) (1 + k) 0
      rw [Nat.zero_add, Nat.add_comm 1 k, w3 k hk, w2 (k + 1) (by omega)])
  unfold HB
  refine brT (pdec_yes ⟨d, G, h, by omega, hv.1, hv.2⟩) (brT (pdec_yes ⟨m, _, _, h2⟩) (brF (by simp) (brF (by rw [n2]; simp) (brF (by rw [n1, hw]; simp) (brT (by rw [n1]; simp [within] <;> omega) (brF ?_ (brT (pdec_yes ⟨m, _, _, h2, by omega, hm⟩) (brT (pdec_yes ⟨m, _, _, h2, by omega, ho.1⟩) (brF (by rw [n2]; simp) (brF (by rw [n2, decide_eq_true (p := m ≠ o) (fun e => ho.2 e.symm)]; rfl) (brT (by rw [n1]; simp [within] <;> omega) (brF (by rw [first]; simp) (brT (pdec_yes ⟨m, _, _, h3⟩) (brT (by rw [n1, decide_eq_true (by omega)]; try rfl) (brT s1 ?_)))))))))))))))
  · rw [Int.toNat_natCast, w2 d (by omega)]
    unfold apG
    rw [if_neg (Nat.lt_irrefl d)]; simp
  · rw [s2]; exact Tr.sat_ok.2 rfl

theorem ln_nil {m : Int} (hm : m = 3 ∨ m = 4) (G : Nat → Int) : Ln m 0 G 0 0 0 0 0 0 0 0 := ⟨hm, by omega, fun k hk => by omega, rfl, rfl, rfl, rfl, rfl, rfl, rfl, rfl⟩
theorem ln_line {m : Int} {c : Nat} {G : Nat → Int} (hm : m = 3 ∨ m = 4) (h0 : c ≠ 0) (hc : c ≤ 7) (hG : ∀ k, k < c → 0 ≤ G k ∧ G k < 49) : Ln m c G (lineW m c G 0) (lineW m c G 1) (lineW m c G 2) (lineW m c G 3) (lineW m c G 4) (lineW m c G 5) (lineW m c G 6) (lineW m c G 7) ∧ lineE m c G = 0 := by
  have hl : lineOk m c G = true := by
    unfold lineOk
    rw [Bool.and_eq_true]
    exact ⟨decide_eq_true (by omega), decide_eq_true fun k hk => decide_eq_true (hG k hk)⟩
  have e : ∀ j, lineW m c G j = lineAt m c G j := fun j => by unfold lineW lineAt; rw [hl, if_neg h0]; rfl
  exact ⟨⟨hm, hc, hG, e 0, e 1, e 2, e 3, e 4, e 5, e 6, e 7⟩, by unfold lineE; rw [hl]; rfl⟩

theorem HT_sat {m o : Int} (x0 : Int) (n2 : Nat) (g2 : Nat → Nat → Int) (hm : m = 3 ∨ m = 4) (ho : (o = 3 ∨ o = 4) ∧ o ≠ m) : (HT m o x0 n2 g2).sat fun r => r = [.b true] := by
  have hh : ∀ v, 0 ≤ v ∧ v < 49 → (HH m o n2 g2 v).sat fun r => r = [.b true] := by
    intro v hv
    unfold HH
    refine brD (fun h0 => brT (decide_eq_true (by omega)) ?_) (fun h0 => HB_sat (ln_nil hm (fun _ => 0)) (by omega) (by omega) rfl hv ho)
    obtain ⟨l1, l2⟩ := ln_line (m := m) (c := min n2 6) (G := fun k => gcol (fun k => idv (g2 (0 + k) 0)) (0 + k) 0) hm (by omega) (by omega) (fun k _ => idv_ok _)
    exact HB_sat l1 (by omega) rfl l2 hv ho
  have hi := idv_ok x0
  unfold idv at hi
  unfold HT
  refine brT (pdec_yes ⟨by omega, by omega, by omega, rfl, fun k hk => by omega⟩) (brD (fun h => hh _ ?_) (fun h => hh _ ?_))
  · rw [if_pos h] at hi; exact hi
  · rw [if_neg h] at hi; exact hi

theorem vc_IpcHalves (x0 : Int) (x1 : Bool) (n2 : Nat) (g2 : Nat → Nat → Int) (_h0 : IntKind.min .i64 ≤ x0) (_k0 : x0 ≤ IntKind.max .i64) (_b : n2 ≤ maxLen) (_w : ∀ (i c : Nat) (k : SK), i < n2 → [SK.n .i64][c]? = some k → wfS k (g2 i c)) :
    (T_IpcHalves x0 x1 n2 g2).sat fun r => r = [.b true] := by
  rw [eT_IpcHalves]
  exact brT rfl (brC (fun _ => HT_sat x0 n2 g2 (by omega) (by omega)) (fun _ => HT_sat x0 n2 g2 (by omega) (by omega)))
end Go.Proofs.Ytepdekambalmhaa.G
end

/-
  What functions of the seat compute, printed by a program from the explorer.
-/
import Derived.Test.YtepdekambalmhaaS4
import Derived.KernelRfl
namespace Go.Proofs.Ytepdekambalmhaa.G
open Go Go.AM Go.Proofs
/-! ### gWait -/

def ish_gWait : FSh := ⟨[.v true [.k (.n .u64), .k (.n .u64), .k (.n .u64), .k (.n .u64), .k (.n .u64), .k (.n .u64), .k (.n .u64), .k (.n .u64)], .v false [.k (.n .i64)], .v false [.k (.n .i64)]], []⟩
def osh_gWait : FSh := ⟨[.tup [(true, [.k (.n .u64), .k (.n .u64), .k (.n .u64), .k (.n .u64), .k (.n .u64), .k (.n .u64), .k (.n .u64), .k (.n .u64)]), (false, [.k (.n .i64)])]], []⟩
def T_gWait (x0 : Int) (x1 : Int) (x2 : Int) (x3 : Int) (x4 : Int) (x5 : Int) (x6 : Int) (x7 : Int) (x8 : Int) (x9 : Int) : Tr (List At) :=
 .br 14 (!r_waits_0 x8)
 (.ok [(.i ((0 : Int))), (.i ((0 : Int))), (.i ((0 : Int))), (.i ((0 : Int))), (.i ((0 : Int))), (.i ((0 : Int))), (.i ((0 : Int))), (.i ((0 : Int))), (.i ((1 : Int)))])
 (.br 18 (!r_isId_0 x9)
 (.ok [(.i ((0 : Int))), (.i ((0 : Int))), (.i ((0 : Int))), (.i ((0 : Int))), (.i ((0 : Int))), (.i ((0 : Int))), (.i ((0 : Int))), (.i ((0 : Int))), (.i ((1 : Int)))])
 (.br 0 (decide (Rng x0 x1 x2 x3 x4 x5 x6 x7))
 (.br 26 (!gate x0 x1 x2 x3 x4 x5 x6 x7)
 (.ok [(.i ((0 : Int))), (.i ((0 : Int))), (.i ((0 : Int))), (.i ((0 : Int))), (.i ((0 : Int))), (.i ((0 : Int))), (.i ((0 : Int))), (.i ((0 : Int))), (.i ((41 : Int)))])
 (.br 33 ((bif gate x0 x1 x2 x3 x4 x5 x6 x7 then x0 % (16 : Int) else (0 : Int)) != (0 : Int))
 (.br 30 ((bif gate x0 x1 x2 x3 x4 x5 x6 x7 then x0 % (16 : Int) else (0 : Int)) != x8)
 (.ok [(.i ((0 : Int))), (.i ((0 : Int))), (.i ((0 : Int))), (.i ((0 : Int))), (.i ((0 : Int))), (.i ((0 : Int))), (.i ((0 : Int))), (.i ((0 : Int))), (.i ((1 : Int)))])
 (.br 39 ((↑(bif gate x0 x1 x2 x3 x4 x5 x6 x7 then cnt x0 else (0 : Nat)) : Int) == (7 : Int))
 (.ok [(.i ((0 : Int))), (.i ((0 : Int))), (.i ((0 : Int))), (.i ((0 : Int))), (.i ((0 : Int))), (.i ((0 : Int))), (.i ((0 : Int))), (.i ((0 : Int))), (.i ((43 : Int)))])
 (.br 50 (true && decide ((0 : Int) ≤ (↑(bif gate x0 x1 x2 x3 x4 x5 x6 x7 then cnt x0 else (0 : Nat)) : Int)) && (↑(bif gate x0 x1 x2 x3 x4 x5 x6 x7 then cnt x0 else (0 : Nat)) : Int) == (↑(bif gate x0 x1 x2 x3 x4 x5 x6 x7 then cnt x0 else (0 : Nat)) : Int) && decide ((↑(bif gate x0 x1 x2 x3 x4 x5 x6 x7 then cnt x0 else (0 : Nat)) : Int) ≤ (↑(bif gate x0 x1 x2 x3 x4 x5 x6 x7 then cnt x0 else (0 : Nat)) : Int)))
 (.br 53 ((true || Int.toNat (↑(bif gate x0 x1 x2 x3 x4 x5 x6 x7 then cnt x0 else (0 : Nat)) : Int) - (0 : Nat) == (0 : Nat)) && decide (Int.toNat (↑(bif gate x0 x1 x2 x3 x4 x5 x6 x7 then cnt x0 else (0 : Nat)) : Int) - (0 : Nat) + (1 : Nat) ≤ (1073741824 : Nat)))
 (.br 0 (decide (Int.toNat (↑(bif gate x0 x1 x2 x3 x4 x5 x6 x7 then cnt x0 else (0 : Nat)) : Int) - (0 : Nat) + (1 : Nat) ≤ (9223372036854775807 : Nat)))
 (.ok [(.i (lineW x8 (Int.toNat (↑(bif gate x0 x1 x2 x3 x4 x5 x6 x7 then cnt x0 else (0 : Nat)) : Int) - (0 : Nat) + (1 : Nat)) (fun (k : Nat) => appG (fun (k c : Nat) => gRows x1 x2 x3 x4 x5 x6 x7 ((0 : Nat) + k) c) (Int.toNat (↑(bif gate x0 x1 x2 x3 x4 x5 x6 x7 then cnt x0 else (0 : Nat)) : Int) - (0 : Nat)) (rowsF [[x9]]) ((0 : Nat) + k) (0 : Nat)) (0 : Nat))), (.i (lineW x8 (Int.toNat (↑(bif gate x0 x1 x2 x3 x4 x5 x6 x7 then cnt x0 else (0 : Nat)) : Int) - (0 : Nat) + (1 : Nat)) (fun (k : Nat) => appG (fun (k c : Nat) => gRows x1 x2 x3 x4 x5 x6 x7 ((0 : Nat) + k) c) (Int.toNat (↑(bif gate x0 x1 x2 x3 x4 x5 x6 x7 then cnt x0 else (0 : Nat)) : Int) - (0 : Nat)) (rowsF [[x9]]) ((0 : Nat) + k) (0 : Nat)) (1 : Nat))), (.i (lineW x8 (Int.toNat (↑(bif gate x0 x1 x2 x3 x4 x5 x6 x7 then cnt x0 else (0 : Nat)) : Int) - (0 : Nat) + (1 : Nat)) (fun (k : Nat) => appG (fun (k c : Nat) => gRows x1 x2 x3 x4 x5 x6 x7 ((0 : Nat) + k) c) (Int.toNat (↑(bif gate x0 x1 x2 x3 x4 x5 x6 x7 then cnt x0 else (0 : Nat)) : Int) - (0 : Nat)) (rowsF [[x9]]) ((0 : Nat) + k) (0 : Nat)) (2 : Nat))), (.i (lineW x8 (Int.toNat (↑(bif gate x0 x1 x2 x3 x4 x5 x6 x7 then cnt x0 else (0 : Nat)) : Int) - (0 : Nat) + (1 : Nat)) (fun (k : Nat) => appG (fun (k c : Nat) => gRows x1 x2 x3 x4 x5 x6 x7 ((0 : Nat) + k) c) (Int.toNat (↑(bif gate x0 x1 x2 x3 x4 x5 x6 x7 then cnt x0 else (0 : Nat)) : Int) - (0 : Nat)) (rowsF [[x9]]) ((0 : Nat) + k) (0 : Nat)) (3 : Nat))), (.i (lineW x8 (Int.toNat (↑(bif gate x0 x1 x2 x3 x4 x5 x6 x7 then cnt x0 else (0 : Nat)) : Int) - (0 : Nat) + (1 : Nat)) (fun (k : Nat) => appG (fun (k c : Nat) => gRows x1 x2 x3 x4 x5 x6 x7 ((0 : Nat) + k) c) (Int.toNat (↑(bif gate x0 x1 x2 x3 x4 x5 x6 x7 then cnt x0 else (0 : Nat)) : Int) - (0 : Nat)) (rowsF [[x9]]) ((0 : Nat) + k) (0 : Nat)) (4 : Nat))), (.i (lineW x8 (Int.toNat (↑(bif gate x0 x1 x2 x3 x4 x5 x6 x7 then cnt x0 else (0 : Nat)) : Int) - (0 : Nat) + (1 : Nat)) (fun (k : Nat) => appG (fun (k c : Nat) => gRows x1 x2 x3 x4 x5 x6 x7 ((0 : Nat) + k) c) (Int.toNat (↑(bif gate x0 x1 x2 x3 x4 x5 x6 x7 then cnt x0 else (0 : Nat)) : Int) - (0 : Nat)) (rowsF [[x9]]) ((0 : Nat) + k) (0 : Nat)) (5 : Nat))), (.i (lineW x8 (Int.toNat (↑(bif gate x0 x1 x2 x3 x4 x5 x6 x7 then cnt x0 else (0 : Nat)) : Int) - (0 : Nat) + (1 : Nat)) (fun (k : Nat) => appG (fun (k c : Nat) => gRows x1 x2 x3 x4 x5 x6 x7 ((0 : Nat) + k) c) (Int.toNat (↑(bif gate x0 x1 x2 x3 x4 x5 x6 x7 then cnt x0 else (0 : Nat)) : Int) - (0 : Nat)) (rowsF [[x9]]) ((0 : Nat) + k) (0 : Nat)) (6 : Nat))), (.i (lineW x8 (Int.toNat (↑(bif gate x0 x1 x2 x3 x4 x5 x6 x7 then cnt x0 else (0 : Nat)) : Int) - (0 : Nat) + (1 : Nat)) (fun (k : Nat) => appG (fun (k c : Nat) => gRows x1 x2 x3 x4 x5 x6 x7 ((0 : Nat) + k) c) (Int.toNat (↑(bif gate x0 x1 x2 x3 x4 x5 x6 x7 then cnt x0 else (0 : Nat)) : Int) - (0 : Nat)) (rowsF [[x9]]) ((0 : Nat) + k) (0 : Nat)) (7 : Nat))), (.i (lineE x8 (Int.toNat (↑(bif gate x0 x1 x2 x3 x4 x5 x6 x7 then cnt x0 else (0 : Nat)) : Int) - (0 : Nat) + (1 : Nat)) fun (k : Nat) => appG (fun (k c : Nat) => gRows x1 x2 x3 x4 x5 x6 x7 ((0 : Nat) + k) c) (Int.toNat (↑(bif gate x0 x1 x2 x3 x4 x5 x6 x7 then cnt x0 else (0 : Nat)) : Int) - (0 : Nat)) (rowsF [[x9]]) ((0 : Nat) + k) (0 : Nat)))])
 (.no))
 (.no))
 (.no))))
 (.br 39 ((↑(bif gate x0 x1 x2 x3 x4 x5 x6 x7 then cnt x0 else (0 : Nat)) : Int) == (7 : Int))
 (.ok [(.i ((0 : Int))), (.i ((0 : Int))), (.i ((0 : Int))), (.i ((0 : Int))), (.i ((0 : Int))), (.i ((0 : Int))), (.i ((0 : Int))), (.i ((0 : Int))), (.i ((43 : Int)))])
 (.br 50 (true && decide ((0 : Int) ≤ (↑(bif gate x0 x1 x2 x3 x4 x5 x6 x7 then cnt x0 else (0 : Nat)) : Int)) && (↑(bif gate x0 x1 x2 x3 x4 x5 x6 x7 then cnt x0 else (0 : Nat)) : Int) == (↑(bif gate x0 x1 x2 x3 x4 x5 x6 x7 then cnt x0 else (0 : Nat)) : Int) && decide ((↑(bif gate x0 x1 x2 x3 x4 x5 x6 x7 then cnt x0 else (0 : Nat)) : Int) ≤ (↑(bif gate x0 x1 x2 x3 x4 x5 x6 x7 then cnt x0 else (0 : Nat)) : Int)))
 (.br 53 ((true || Int.toNat (↑(bif gate x0 x1 x2 x3 x4 x5 x6 x7 then cnt x0 else (0 : Nat)) : Int) - (0 : Nat) == (0 : Nat)) && decide (Int.toNat (↑(bif gate x0 x1 x2 x3 x4 x5 x6 x7 then cnt x0 else (0 : Nat)) : Int) - (0 : Nat) + (1 : Nat) ≤ (1073741824 : Nat)))
 (.br 0 (decide (Int.toNat (↑(bif gate x0 x1 x2 x3 x4 x5 x6 x7 then cnt x0 else (0 : Nat)) : Int) - (0 : Nat) + (1 : Nat) ≤ (9223372036854775807 : Nat)))
 (.ok [(.i (lineW x8 (Int.toNat (↑(bif gate x0 x1 x2 x3 x4 x5 x6 x7 then cnt x0 else (0 : Nat)) : Int) - (0 : Nat) + (1 : Nat)) (fun (k : Nat) => appG (fun (k c : Nat) => gRows x1 x2 x3 x4 x5 x6 x7 ((0 : Nat) + k) c) (Int.toNat (↑(bif gate x0 x1 x2 x3 x4 x5 x6 x7 then cnt x0 else (0 : Nat)) : Int) - (0 : Nat)) (rowsF [[x9]]) ((0 : Nat) + k) (0 : Nat)) (0 : Nat))), (.i (lineW x8 (Int.toNat (↑(bif gate x0 x1 x2 x3 x4 x5 x6 x7 then cnt x0 else (0 : Nat)) : Int) - (0 : Nat) + (1 : Nat)) (fun (k : Nat) => appG (fun (k c : Nat) => gRows x1 x2 x3 x4 x5 x6 x7 ((0 : Nat) + k) c) (Int.toNat (↑(bif gate x0 x1 x2 x3 x4 x5 x6 x7 then cnt x0 else (0 : Nat)) : Int) - (0 : Nat)) (rowsF [[x9]]) ((0 : Nat) + k) (0 : Nat)) (1 : Nat))), (.i (lineW x8 (Int.toNat (↑(bif gate x0 x1 x2 x3 x4 x5 x6 x7 then cnt x0 else (0 : Nat)) : Int) - (0 : Nat) + (1 : Nat)) (fun (k : Nat) => appG (fun (k c : Nat) => gRows x1 x2 x3 x4 x5 x6 x7 ((0 : Nat) + k) c) (Int.toNat (↑(bif gate x0 x1 x2 x3 x4 x5 x6 x7 then cnt x0 else (0 : Nat)) : Int) - (0 : Nat)) (rowsF [[x9]]) ((0 : Nat) + k) (0 : Nat)) (2 : Nat))), (.i (lineW x8 (Int.toNat (↑(bif gate x0 x1 x2 x3 x4 x5 x6 x7 then cnt x0 else (0 : Nat)) : Int) - (0 : Nat) + (1 : Nat)) (fun (k : Nat) => appG (fun (k c : Nat) => gRows x1 x2 x3 x4 x5 x6 x7 ((0 : Nat) + k) c) (Int.toNat (↑(bif gate x0 x1 x2 x3 x4 x5 x6 x7 then cnt x0 else (0 : Nat)) : Int) - (0 : Nat)) (rowsF [[x9]]) ((0 : Nat) + k) (0 : Nat)) (3 : Nat))), (.i (lineW x8 (Int.toNat (↑(bif gate x0 x1 x2 x3 x4 x5 x6 x7 then cnt x0 else (0 : Nat)) : Int) - (0 : Nat) + (1 : Nat)) (fun (k : Nat) => appG (fun (k c : Nat) => gRows x1 x2 x3 x4 x5 x6 x7 ((0 : Nat) + k) c) (Int.toNat (↑(bif gate x0 x1 x2 x3 x4 x5 x6 x7 then cnt x0 else (0 : Nat)) : Int) - (0 : Nat)) (rowsF [[x9]]) ((0 : Nat) + k) (0 : Nat)) (4 : Nat))), (.i (lineW x8 (Int.toNat (↑(bif gate x0 x1 x2 x3 x4 x5 x6 x7 then cnt x0 else (0 : Nat)) : Int) - (0 : Nat) + (1 : Nat)) (fun (k : Nat) => appG (fun (k c : Nat) => gRows x1 x2 x3 x4 x5 x6 x7 ((0 : Nat) + k) c) (Int.toNat (↑(bif gate x0 x1 x2 x3 x4 x5 x6 x7 then cnt x0 else (0 : Nat)) : Int) - (0 : Nat)) (rowsF [[x9]]) ((0 : Nat) + k) (0 : Nat)) (5 : Nat))), (.i (lineW x8 (Int.toNat (↑(bif gate x0 x1 x2 x3 x4 x5 x6 x7 then cnt x0 else (0 : Nat)) : Int) - (0 : Nat) + (1 : Nat)) (fun (k : Nat) => appG (fun (k c : Nat) => gRows x1 x2 x3 x4 x5 x6 x7 ((0 : Nat) + k) c) (Int.toNat (↑(bif gate x0 x1 x2 x3 x4 x5 x6 x7 then cnt x0 else (0 : Nat)) : Int) - (0 : Nat)) (rowsF [[x9]]) ((0 : Nat) + k) (0 : Nat)) (6 : Nat))), (.i (lineW x8 (Int.toNat (↑(bif gate x0 x1 x2 x3 x4 x5 x6 x7 then cnt x0 else (0 : Nat)) : Int) - (0 : Nat) + (1 : Nat)) (fun (k : Nat) => appG (fun (k c : Nat) => gRows x1 x2 x3 x4 x5 x6 x7 ((0 : Nat) + k) c) (Int.toNat (↑(bif gate x0 x1 x2 x3 x4 x5 x6 x7 then cnt x0 else (0 : Nat)) : Int) - (0 : Nat)) (rowsF [[x9]]) ((0 : Nat) + k) (0 : Nat)) (7 : Nat))), (.i (lineE x8 (Int.toNat (↑(bif gate x0 x1 x2 x3 x4 x5 x6 x7 then cnt x0 else (0 : Nat)) : Int) - (0 : Nat) + (1 : Nat)) fun (k : Nat) => appG (fun (k c : Nat) => gRows x1 x2 x3 x4 x5 x6 x7 ((0 : Nat) + k) c) (Int.toNat (↑(bif gate x0 x1 x2 x3 x4 x5 x6 x7 then cnt x0 else (0 : Nat)) : Int) - (0 : Nat)) (rowsF [[x9]]) ((0 : Nat) + k) (0 : Nat)))])
 (.no))
 (.no))
 (.no)))))
 (.no)))
def y_gWait : Nat → Option Nat := (syOf3 [14, 18, 26, 33, 30, 39, 50, 53] [] [])
def TL_gWait (l : List At) : Tr (List At) := T_gWait (aI l 0) (aI l 1) (aI l 2) (aI l 3) (aI l 4) (aI l 5) (aI l 6) (aI l 7) (aI l 8) (aI l 9)
theorem e_gWait (l : List At) : (call Try.prog Γ_S4 y_gWait noLoops 100 Try.f13 (mkV ish_gWait l) (mkH ish_gWait l)).bind (leafO 0 osh_gWait) = TL_gWait l := by kernel_rfl
def F_gWait : List At → Tr (List At) := TL_gWait
theorem s_gWait : SpecF Try.prog 13 (.eff (locF ish_gWait osh_gWait F_gWait)) :=
  spec_loc (sy := y_gWait) (fuel := 100) (Lp := noLoops) o_S4 mixed ⟨Try.func13, by kernel_rfl, by kernel_rfl⟩ ish_gWait osh_gWait (noLoops_ok _) (hT_ways e_gWait)
def Γ_gWait : Specs := upd Γ_S4 13 (.eff (locF ish_gWait osh_gWait F_gWait))
theorem o_gWait : SpecOK Try.prog Γ_gWait := SpecOK.upd o_S4 s_gWait

/-! ### rWait -/

def ish_rWait : FSh := ⟨[.v true [.k (.n .u64), .k (.n .u64), .k (.n .u64), .k (.n .u64), .k (.n .u64), .k (.n .u64), .k (.n .u64), .k (.n .u64)], .v false [.k (.n .i64)], .v false [.k (.n .i64)]], []⟩
def osh_rWait : FSh := ⟨[.tup [(true, [.k (.n .u64), .k (.n .u64), .k (.n .u64), .k (.n .u64), .k (.n .u64), .k (.n .u64), .k (.n .u64), .k (.n .u64)]), (false, [.k (.n .i64)])]], []⟩
def T_rWait_s0 (x0 : Int) (x1 : Int) (x2 : Int) (x3 : Int) (x4 : Int) (x5 : Int) (x6 : Int) (x7 : Int) (x8 : Int) (x9 : Int) : Tr (List At) :=
 .br 37 ((bif gate x0 x1 x2 x3 x4 x5 x6 x7 then x0 % (16 : Int) else (0 : Int)) != (0 : Int))
 (.br 41 ((bif gate x0 x1 x2 x3 x4 x5 x6 x7 then x0 % (16 : Int) else (0 : Int)) != x8)
 (.ok [(.i ((0 : Int))), (.i ((0 : Int))), (.i ((0 : Int))), (.i ((0 : Int))), (.i ((0 : Int))), (.i ((0 : Int))), (.i ((0 : Int))), (.i ((0 : Int))), (.i ((1 : Int)))])
 (.br 45 ((↑(bif gate x0 x1 x2 x3 x4 x5 x6 x7 then cnt x0 else (0 : Nat)) : Int) == (7 : Int))
 (.ok [(.i ((0 : Int))), (.i ((0 : Int))), (.i ((0 : Int))), (.i ((0 : Int))), (.i ((0 : Int))), (.i ((0 : Int))), (.i ((0 : Int))), (.i ((0 : Int))), (.i ((43 : Int)))])
 (.br 50 (decide (((0 : Nat) + bif gate x0 x1 x2 x3 x4 x5 x6 x7 then cnt x0 else (0 : Nat)) ≤ (1073741824 : Nat)))
 (.br 53 (decide (((0 : Nat) + bif gate x0 x1 x2 x3 x4 x5 x6 x7 then cnt x0 else (0 : Nat)) + (1 : Nat) ≤ (1073741824 : Nat)))
 (.br 0 (decide (((0 : Nat) + bif gate x0 x1 x2 x3 x4 x5 x6 x7 then cnt x0 else (0 : Nat)) + (1 : Nat) ≤ (9223372036854775807 : Nat)))
 (.ok [(.i (lineW x8 (((0 : Nat) + bif gate x0 x1 x2 x3 x4 x5 x6 x7 then cnt x0 else (0 : Nat)) + (1 : Nat)) (fun (k : Nat) => appG (appG (fun (_ _ : Nat) => (0 : Int)) (0 : Nat) fun (j c : Nat) => gRows x1 x2 x3 x4 x5 x6 x7 ((0 : Nat) + j) c) ((0 : Nat) + bif gate x0 x1 x2 x3 x4 x5 x6 x7 then cnt x0 else (0 : Nat)) (rowsF [[x9]]) ((0 : Nat) + k) (0 : Nat)) (0 : Nat))), (.i (lineW x8 (((0 : Nat) + bif gate x0 x1 x2 x3 x4 x5 x6 x7 then cnt x0 else (0 : Nat)) + (1 : Nat)) (fun (k : Nat) => appG (appG (fun (_ _ : Nat) => (0 : Int)) (0 : Nat) fun (j c : Nat) => gRows x1 x2 x3 x4 x5 x6 x7 ((0 : Nat) + j) c) ((0 : Nat) + bif gate x0 x1 x2 x3 x4 x5 x6 x7 then cnt x0 else (0 : Nat)) (rowsF [[x9]]) ((0 : Nat) + k) (0 : Nat)) (1 : Nat))), (.i (lineW x8 (((0 : Nat) + bif gate x0 x1 x2 x3 x4 x5 x6 x7 then cnt x0 else (0 : Nat)) + (1 : Nat)) (fun (k : Nat) => appG (appG (fun (_ _ : Nat) => (0 : Int)) (0 : Nat) fun (j c : Nat) => gRows x1 x2 x3 x4 x5 x6 x7 ((0 : Nat) + j) c) ((0 : Nat) + bif gate x0 x1 x2 x3 x4 x5 x6 x7 then cnt x0 else (0 : Nat)) (rowsF [[x9]]) ((0 : Nat) + k) (0 : Nat)) (2 : Nat))), (.i (lineW x8 (((0 : Nat) + bif gate x0 x1 x2 x3 x4 x5 x6 x7 then cnt x0 else (0 : Nat)) + (1 : Nat)) (fun (k : Nat) => appG (appG (fun (_ _ : Nat) => (0 : Int)) (0 : Nat) fun (j c : Nat) => gRows x1 x2 x3 x4 x5 x6 x7 ((0 : Nat) + j) c) ((0 : Nat) + bif gate x0 x1 x2 x3 x4 x5 x6 x7 then cnt x0 else (0 : Nat)) (rowsF [[x9]]) ((0 : Nat) + k) (0 : Nat)) (3 : Nat))), (.i (lineW x8 (((0 : Nat) + bif gate x0 x1 x2 x3 x4 x5 x6 x7 then cnt x0 else (0 : Nat)) + (1 : Nat)) (fun (k : Nat) => appG (appG (fun (_ _ : Nat) => (0 : Int)) (0 : Nat) fun (j c : Nat) => gRows x1 x2 x3 x4 x5 x6 x7 ((0 : Nat) + j) c) ((0 : Nat) + bif gate x0 x1 x2 x3 x4 x5 x6 x7 then cnt x0 else (0 : Nat)) (rowsF [[x9]]) ((0 : Nat) + k) (0 : Nat)) (4 : Nat))), (.i (lineW x8 (((0 : Nat) + bif gate x0 x1 x2 x3 x4 x5 x6 x7 then cnt x0 else (0 : Nat)) + (1 : Nat)) (fun (k : Nat) => appG (appG (fun (_ _ : Nat) => (0 : Int)) (0 : Nat) fun (j c : Nat) => gRows x1 x2 x3 x4 x5 x6 x7 ((0 : Nat) + j) c) ((0 : Nat) + bif gate x0 x1 x2 x3 x4 x5 x6 x7 then cnt x0 else (0 : Nat)) (rowsF [[x9]]) ((0 : Nat) + k) (0 : Nat)) (5 : Nat))), (.i (lineW x8 (((0 : Nat) + bif gate x0 x1 x2 x3 x4 x5 x6 x7 then cnt x0 else (0 : Nat)) + (1 : Nat)) (fun (k : Nat) => appG (appG (fun (_ _ : Nat) => (0 : Int)) (0 : Nat) fun (j c : Nat) => gRows x1 x2 x3 x4 x5 x6 x7 ((0 : Nat) + j) c) ((0 : Nat) + bif gate x0 x1 x2 x3 x4 x5 x6 x7 then cnt x0 else (0 : Nat)) (rowsF [[x9]]) ((0 : Nat) + k) (0 : Nat)) (6 : Nat))), (.i (lineW x8 (((0 : Nat) + bif gate x0 x1 x2 x3 x4 x5 x6 x7 then cnt x0 else (0 : Nat)) + (1 : Nat)) (fun (k : Nat) => appG (appG (fun (_ _ : Nat) => (0 : Int)) (0 : Nat) fun (j c : Nat) => gRows x1 x2 x3 x4 x5 x6 x7 ((0 : Nat) + j) c) ((0 : Nat) + bif gate x0 x1 x2 x3 x4 x5 x6 x7 then cnt x0 else (0 : Nat)) (rowsF [[x9]]) ((0 : Nat) + k) (0 : Nat)) (7 : Nat))), (.i (lineE x8 (((0 : Nat) + bif gate x0 x1 x2 x3 x4 x5 x6 x7 then cnt x0 else (0 : Nat)) + (1 : Nat)) fun (k : Nat) => appG (appG (fun (_ _ : Nat) => (0 : Int)) (0 : Nat) fun (j c : Nat) => gRows x1 x2 x3 x4 x5 x6 x7 ((0 : Nat) + j) c) ((0 : Nat) + bif gate x0 x1 x2 x3 x4 x5 x6 x7 then cnt x0 else (0 : Nat)) (rowsF [[x9]]) ((0 : Nat) + k) (0 : Nat)))])
 (.no))
 (.no))
 (.no))))
 (.br 45 ((↑(bif gate x0 x1 x2 x3 x4 x5 x6 x7 then cnt x0 else (0 : Nat)) : Int) == (7 : Int))
 (.ok [(.i ((0 : Int))), (.i ((0 : Int))), (.i ((0 : Int))), (.i ((0 : Int))), (.i ((0 : Int))), (.i ((0 : Int))), (.i ((0 : Int))), (.i ((0 : Int))), (.i ((43 : Int)))])
 (.br 50 (decide (((0 : Nat) + bif gate x0 x1 x2 x3 x4 x5 x6 x7 then cnt x0 else (0 : Nat)) ≤ (1073741824 : Nat)))
 (.br 53 (decide (((0 : Nat) + bif gate x0 x1 x2 x3 x4 x5 x6 x7 then cnt x0 else (0 : Nat)) + (1 : Nat) ≤ (1073741824 : Nat)))
 (.br 0 (decide (((0 : Nat) + bif gate x0 x1 x2 x3 x4 x5 x6 x7 then cnt x0 else (0 : Nat)) + (1 : Nat) ≤ (9223372036854775807 : Nat)))
 (.ok [(.i (lineW x8 (((0 : Nat) + bif gate x0 x1 x2 x3 x4 x5 x6 x7 then cnt x0 else (0 : Nat)) + (1 : Nat)) (fun (k : Nat) => appG (appG (fun (_ _ : Nat) => (0 : Int)) (0 : Nat) fun (j c : Nat) => gRows x1 x2 x3 x4 x5 x6 x7 ((0 : Nat) + j) c) ((0 : Nat) + bif gate x0 x1 x2 x3 x4 x5 x6 x7 then cnt x0 else (0 : Nat)) (rowsF [[x9]]) ((0 : Nat) + k) (0 : Nat)) (0 : Nat))), (.i (lineW x8 (((0 : Nat) + bif gate x0 x1 x2 x3 x4 x5 x6 x7 then cnt x0 else (0 : Nat)) + (1 : Nat)) (fun (k : Nat) => appG (appG (fun (_ _ : Nat) => (0 : Int)) (0 : Nat) fun (j c : Nat) => gRows x1 x2 x3 x4 x5 x6 x7 ((0 : Nat) + j) c) ((0 : Nat) + bif gate x0 x1 x2 x3 x4 x5 x6 x7 then cnt x0 else (0 : Nat)) (rowsF [[x9]]) ((0 : Nat) + k) (0 : Nat)) (1 : Nat))), (.i (lineW x8 (((0 : Nat) + bif gate x0 x1 x2 x3 x4 x5 x6 x7 then cnt x0 else (0 : Nat)) + (1 : Nat)) (fun (k : Nat) => appG (appG (fun (_ _ : Nat) => (0 : Int)) (0 : Nat) fun (j c : Nat) => gRows x1 x2 x3 x4 x5 x6 x7 ((0 : Nat) + j) c) ((0 : Nat) + bif gate x0 x1 x2 x3 x4 x5 x6 x7 then cnt x0 else (0 : Nat)) (rowsF [[x9]]) ((0 : Nat) + k) (0 : Nat)) (2 : Nat))), (.i (lineW x8 (((0 : Nat) + bif gate x0 x1 x2 x3 x4 x5 x6 x7 then cnt x0 else (0 : Nat)) + (1 : Nat)) (fun (k : Nat) => appG (appG (fun (_ _ : Nat) => (0 : Int)) (0 : Nat) fun (j c : Nat) => gRows x1 x2 x3 x4 x5 x6 x7 ((0 : Nat) + j) c) ((0 : Nat) + bif gate x0 x1 x2 x3 x4 x5 x6 x7 then cnt x0 else (0 : Nat)) (rowsF [[x9]]) ((0 : Nat) + k) (0 : Nat)) (3 : Nat))), (.i (lineW x8 (((0 : Nat) + bif gate x0 x1 x2 x3 x4 x5 x6 x7 then cnt x0 else (0 : Nat)) + (1 : Nat)) (fun (k : Nat) => appG (appG (fun (_ _ : Nat) => (0 : Int)) (0 : Nat) fun (j c : Nat) => gRows x1 x2 x3 x4 x5 x6 x7 ((0 : Nat) + j) c) ((0 : Nat) + bif gate x0 x1 x2 x3 x4 x5 x6 x7 then cnt x0 else (0 : Nat)) (rowsF [[x9]]) ((0 : Nat) + k) (0 : Nat)) (4 : Nat))), (.i (lineW x8 (((0 : Nat) + bif gate x0 x1 x2 x3 x4 x5 x6 x7 then cnt x0 else (0 : Nat)) + (1 : Nat)) (fun (k : Nat) => appG (appG (fun (_ _ : Nat) => (0 : Int)) (0 : Nat) fun (j c : Nat) => gRows x1 x2 x3 x4 x5 x6 x7 ((0 : Nat) + j) c) ((0 : Nat) + bif gate x0 x1 x2 x3 x4 x5 x6 x7 then cnt x0 else (0 : Nat)) (rowsF [[x9]]) ((0 : Nat) + k) (0 : Nat)) (5 : Nat))), (.i (lineW x8 (((0 : Nat) + bif gate x0 x1 x2 x3 x4 x5 x6 x7 then cnt x0 else (0 : Nat)) + (1 : Nat)) (fun (k : Nat) => appG (appG (fun (_ _ : Nat) => (0 : Int)) (0 : Nat) fun (j c : Nat) => gRows x1 x2 x3 x4 x5 x6 x7 ((0 : Nat) + j) c) ((0 : Nat) + bif gate x0 x1 x2 x3 x4 x5 x6 x7 then cnt x0 else (0 : Nat)) (rowsF [[x9]]) ((0 : Nat) + k) (0 : Nat)) (6 : Nat))), (.i (lineW x8 (((0 : Nat) + bif gate x0 x1 x2 x3 x4 x5 x6 x7 then cnt x0 else (0 : Nat)) + (1 : Nat)) (fun (k : Nat) => appG (appG (fun (_ _ : Nat) => (0 : Int)) (0 : Nat) fun (j c : Nat) => gRows x1 x2 x3 x4 x5 x6 x7 ((0 : Nat) + j) c) ((0 : Nat) + bif gate x0 x1 x2 x3 x4 x5 x6 x7 then cnt x0 else (0 : Nat)) (rowsF [[x9]]) ((0 : Nat) + k) (0 : Nat)) (7 : Nat))), (.i (lineE x8 (((0 : Nat) + bif gate x0 x1 x2 x3 x4 x5 x6 x7 then cnt x0 else (0 : Nat)) + (1 : Nat)) fun (k : Nat) => appG (appG (fun (_ _ : Nat) => (0 : Int)) (0 : Nat) fun (j c : Nat) => gRows x1 x2 x3 x4 x5 x6 x7 ((0 : Nat) + j) c) ((0 : Nat) + bif gate x0 x1 x2 x3 x4 x5 x6 x7 then cnt x0 else (0 : Nat)) (rowsF [[x9]]) ((0 : Nat) + k) (0 : Nat)))])
 (.no))
 (.no))
 (.no)))
def T_rWait_s1 (x0 : Int) (x1 : Int) (x2 : Int) (x3 : Int) (x4 : Int) (x5 : Int) (x6 : Int) (x7 : Int) (x8 : Int) (x9 : Int) : Tr (List At) :=
 .br 33 (!gate x0 x1 x2 x3 x4 x5 x6 x7)
 (.ok [(.i ((0 : Int))), (.i ((0 : Int))), (.i ((0 : Int))), (.i ((0 : Int))), (.i ((0 : Int))), (.i ((0 : Int))), (.i ((0 : Int))), (.i ((0 : Int))), (.i ((41 : Int)))])
 (T_rWait_s0 x0 x1 x2 x3 x4 x5 x6 x7 x8 x9)
def T_rWait_s2 (x0 : Int) (x1 : Int) (x2 : Int) (x3 : Int) (x4 : Int) (x5 : Int) (x6 : Int) (x7 : Int) (x8 : Int) (x9 : Int) : Tr (List At) :=
 .br 0 (decide (Rng x0 x1 x2 x3 x4 x5 x6 x7))
 (T_rWait_s1 x0 x1 x2 x3 x4 x5 x6 x7 x8 x9)
 (.no)
def T_rWait_s3 (x0 : Int) (x1 : Int) (x2 : Int) (x3 : Int) (x4 : Int) (x5 : Int) (x6 : Int) (x7 : Int) (x8 : Int) (x9 : Int) : Tr (List At) :=
 .br 24 (decide (x9 ≥ (49 : Int)))
 (.ok [(.i ((0 : Int))), (.i ((0 : Int))), (.i ((0 : Int))), (.i ((0 : Int))), (.i ((0 : Int))), (.i ((0 : Int))), (.i ((0 : Int))), (.i ((0 : Int))), (.i ((1 : Int)))])
 (T_rWait_s2 x0 x1 x2 x3 x4 x5 x6 x7 x8 x9)
def T_rWait_s4 (x0 : Int) (x1 : Int) (x2 : Int) (x3 : Int) (x4 : Int) (x5 : Int) (x6 : Int) (x7 : Int) (x8 : Int) (x9 : Int) : Tr (List At) :=
 .br 21 (decide (x9 < (0 : Int)))
 (.ok [(.i ((0 : Int))), (.i ((0 : Int))), (.i ((0 : Int))), (.i ((0 : Int))), (.i ((0 : Int))), (.i ((0 : Int))), (.i ((0 : Int))), (.i ((0 : Int))), (.i ((1 : Int)))])
 (T_rWait_s3 x0 x1 x2 x3 x4 x5 x6 x7 x8 x9)
def T_rWait (x0 : Int) (x1 : Int) (x2 : Int) (x3 : Int) (x4 : Int) (x5 : Int) (x6 : Int) (x7 : Int) (x8 : Int) (x9 : Int) : Tr (List At) :=
 .br 13 (x8 != (3 : Int))
 (.br 17 (x8 != (4 : Int))
 (.ok [(.i ((0 : Int))), (.i ((0 : Int))), (.i ((0 : Int))), (.i ((0 : Int))), (.i ((0 : Int))), (.i ((0 : Int))), (.i ((0 : Int))), (.i ((0 : Int))), (.i ((1 : Int)))])
 (T_rWait_s4 x0 x1 x2 x3 x4 x5 x6 x7 x8 x9))
 (T_rWait_s4 x0 x1 x2 x3 x4 x5 x6 x7 x8 x9)
def y_rWait : Nat → Option Nat := (syOf3 [13, 17, 21, 24, 33, 37, 41, 45, 50, 53] [] [])
def TL_rWait (l : List At) : Tr (List At) := T_rWait (aI l 0) (aI l 1) (aI l 2) (aI l 3) (aI l 4) (aI l 5) (aI l 6) (aI l 7) (aI l 8) (aI l 9)
theorem e_rWait (l : List At) : (call Try.prog Γ_gWait y_rWait noLoops 100 Try.f14 (mkV ish_rWait l) (mkH ish_rWait l)).bind (leafO 0 osh_rWait) = TL_rWait l := by kernel_rfl
def F_rWait : List At → Tr (List At) := TL_rWait
theorem s_rWait : SpecF Try.prog 14 (.eff (locF ish_rWait osh_rWait F_rWait)) :=
  spec_loc (sy := y_rWait) (fuel := 100) (Lp := noLoops) o_gWait mixed ⟨Try.func14, by kernel_rfl, by kernel_rfl⟩ ish_rWait osh_rWait (noLoops_ok _) (hT_ways e_rWait)
def Γ_rWait : Specs := upd Γ_gWait 14 (.eff (locF ish_rWait osh_rWait F_rWait))
theorem o_rWait : SpecOK Try.prog Γ_rWait := SpecOK.upd o_gWait s_rWait

/-! ### gMeet -/

def ish_gMeet : FSh := ⟨[.v true [.k (.n .u64), .k (.n .u64), .k (.n .u64), .k (.n .u64), .k (.n .u64), .k (.n .u64), .k (.n .u64), .k (.n .u64)], .v false [.k (.n .i64)]], []⟩
def osh_gMeet : FSh := ⟨[.tup [(false, [.k (.n .i64)]), (true, [.k (.n .u64), .k (.n .u64), .k (.n .u64), .k (.n .u64), .k (.n .u64), .k (.n .u64), .k (.n .u64), .k (.n .u64)]), (false, [.k .b])]], []⟩
def T_gMeet (x0 : Int) (x1 : Int) (x2 : Int) (x3 : Int) (x4 : Int) (x5 : Int) (x6 : Int) (x7 : Int) (x8 : Int) : Tr (List At) :=
 .br 0 (decide (Rng x0 x1 x2 x3 x4 x5 x6 x7))
 (.br 17 (!gate x0 x1 x2 x3 x4 x5 x6 x7)
 (.ok [(.i ((0 : Int))), (.i ((0 : Int))), (.i ((0 : Int))), (.i ((0 : Int))), (.i ((0 : Int))), (.i ((0 : Int))), (.i ((0 : Int))), (.i ((0 : Int))), (.i ((0 : Int))), (.b (false))])
 (.br 22 (!r_waits_0 x8)
 (.ok [(.i ((0 : Int))), (.i ((0 : Int))), (.i ((0 : Int))), (.i ((0 : Int))), (.i ((0 : Int))), (.i ((0 : Int))), (.i ((0 : Int))), (.i ((0 : Int))), (.i ((0 : Int))), (.b (false))])
 (.br 27 (!r_waits_0 (bif gate x0 x1 x2 x3 x4 x5 x6 x7 then x0 % (16 : Int) else (0 : Int)))
 (.ok [(.i ((0 : Int))), (.i ((0 : Int))), (.i ((0 : Int))), (.i ((0 : Int))), (.i ((0 : Int))), (.i ((0 : Int))), (.i ((0 : Int))), (.i ((0 : Int))), (.i ((0 : Int))), (.b (false))])
 (.br 31 ((bif gate x0 x1 x2 x3 x4 x5 x6 x7 then x0 % (16 : Int) else (0 : Int)) == x8)
 (.ok [(.i ((0 : Int))), (.i ((0 : Int))), (.i ((0 : Int))), (.i ((0 : Int))), (.i ((0 : Int))), (.i ((0 : Int))), (.i ((0 : Int))), (.i ((0 : Int))), (.i ((0 : Int))), (.b (false))])
 (.br 35 ((↑(bif gate x0 x1 x2 x3 x4 x5 x6 x7 then cnt x0 else (0 : Nat)) : Int) == (1 : Int))
 (.br 37 (within (0 : Int) (bif gate x0 x1 x2 x3 x4 x5 x6 x7 then cnt x0 else (0 : Nat)))
 (.ok [(.i (gRows x1 x2 x3 x4 x5 x6 x7 (0 : Nat) (0 : Nat))), (.i ((0 : Int))), (.i ((0 : Int))), (.i ((0 : Int))), (.i ((0 : Int))), (.i ((0 : Int))), (.i ((0 : Int))), (.i ((0 : Int))), (.i ((0 : Int))), (.b (true))])
 (.no))
 (.br 43 (true && decide ((1 : Int) ≤ (↑(bif gate x0 x1 x2 x3 x4 x5 x6 x7 then cnt x0 else (0 : Nat)) : Int)))
 (.br 0 (decide (Int.toNat (↑(bif gate x0 x1 x2 x3 x4 x5 x6 x7 then cnt x0 else (0 : Nat)) : Int) - (1 : Nat) ≤ (9223372036854775807 : Nat)))
 (.br 48 (within (0 : Int) (bif gate x0 x1 x2 x3 x4 x5 x6 x7 then cnt x0 else (0 : Nat)))
 (.ok [(.i (gRows x1 x2 x3 x4 x5 x6 x7 (0 : Nat) (0 : Nat))), (.i (lineW (bif gate x0 x1 x2 x3 x4 x5 x6 x7 then x0 % (16 : Int) else (0 : Int)) (Int.toNat (↑(bif gate x0 x1 x2 x3 x4 x5 x6 x7 then cnt x0 else (0 : Nat)) : Int) - (1 : Nat)) (fun (k : Nat) => gRows x1 x2 x3 x4 x5 x6 x7 ((1 : Nat) + k) (0 : Nat)) (0 : Nat))), (.i (lineW (bif gate x0 x1 x2 x3 x4 x5 x6 x7 then x0 % (16 : Int) else (0 : Int)) (Int.toNat (↑(bif gate x0 x1 x2 x3 x4 x5 x6 x7 then cnt x0 else (0 : Nat)) : Int) - (1 : Nat)) (fun (k : Nat) => gRows x1 x2 x3 x4 x5 x6 x7 ((1 : Nat) + k) (0 : Nat)) (1 : Nat))), (.i (lineW (bif gate x0 x1 x2 x3 x4 x5 x6 x7 then x0 % (16 : Int) else (0 : Int)) (Int.toNat (↑(bif gate x0 x1 x2 x3 x4 x5 x6 x7 then cnt x0 else (0 : Nat)) : Int) - (1 : Nat)) (fun (k : Nat) => gRows x1 x2 x3 x4 x5 x6 x7 ((1 : Nat) + k) (0 : Nat)) (2 : Nat))), (.i (lineW (bif gate x0 x1 x2 x3 x4 x5 x6 x7 then x0 % (16 : Int) else (0 : Int)) (Int.toNat (↑(bif gate x0 x1 x2 x3 x4 x5 x6 x7 then cnt x0 else (0 : Nat)) : Int) - (1 : Nat)) (fun (k : Nat) => gRows x1 x2 x3 x4 x5 x6 x7 ((1 : Nat) + k) (0 : Nat)) (3 : Nat))), (.i (lineW (bif gate x0 x1 x2 x3 x4 x5 x6 x7 then x0 % (16 : Int) else (0 : Int)) (Int.toNat (↑(bif gate x0 x1 x2 x3 x4 x5 x6 x7 then cnt x0 else (0 : Nat)) : Int) - (1 : Nat)) (fun (k : Nat) => gRows x1 x2 x3 x4 x5 x6 x7 ((1 : Nat) + k) (0 : Nat)) (4 : Nat))), (.i (lineW (bif gate x0 x1 x2 x3 x4 x5 x6 x7 then x0 % (16 : Int) else (0 : Int)) (Int.toNat (↑(bif gate x0 x1 x2 x3 x4 x5 x6 x7 then cnt x0 else (0 : Nat)) : Int) - (1 : Nat)) (fun (k : Nat) => gRows x1 x2 x3 x4 x5 x6 x7 ((1 : Nat) + k) (0 : Nat)) (5 : Nat))), (.i (lineW (bif gate x0 x1 x2 x3 x4 x5 x6 x7 then x0 % (16 : Int) else (0 : Int)) (Int.toNat (↑(bif gate x0 x1 x2 x3 x4 x5 x6 x7 then cnt x0 else (0 : Nat)) : Int) - (1 : Nat)) (fun (k : Nat) => gRows x1 x2 x3 x4 x5 x6 x7 ((1 : Nat) + k) (0 : Nat)) (6 : Nat))), (.i (lineW (bif gate x0 x1 x2 x3 x4 x5 x6 x7 then x0 % (16 : Int) else (0 : Int)) (Int.toNat (↑(bif gate x0 x1 x2 x3 x4 x5 x6 x7 then cnt x0 else (0 : Nat)) : Int) - (1 : Nat)) (fun (k : Nat) => gRows x1 x2 x3 x4 x5 x6 x7 ((1 : Nat) + k) (0 : Nat)) (7 : Nat))), (.b (true))])
 (.no))
 (.no))
 (.no)))))))
 (.no)
def y_gMeet : Nat → Option Nat := (syOf3 [17, 22, 27, 31, 35, 37, 43, 48] [] [])
def TL_gMeet (l : List At) : Tr (List At) := T_gMeet (aI l 0) (aI l 1) (aI l 2) (aI l 3) (aI l 4) (aI l 5) (aI l 6) (aI l 7) (aI l 8)
theorem e_gMeet (l : List At) : (call Try.prog Γ_rWait y_gMeet noLoops 100 Try.f15 (mkV ish_gMeet l) (mkH ish_gMeet l)).bind (leafO 0 osh_gMeet) = TL_gMeet l := by kernel_rfl
def F_gMeet : List At → Tr (List At) := TL_gMeet
theorem s_gMeet : SpecF Try.prog 15 (.eff (locF ish_gMeet osh_gMeet F_gMeet)) :=
  spec_loc (sy := y_gMeet) (fuel := 100) (Lp := noLoops) o_rWait mixed ⟨Try.func15, by kernel_rfl, by kernel_rfl⟩ ish_gMeet osh_gMeet (noLoops_ok _) (hT_ways e_gMeet)
def Γ_gMeet : Specs := upd Γ_rWait 15 (.eff (locF ish_gMeet osh_gMeet F_gMeet))
theorem o_gMeet : SpecOK Try.prog Γ_gMeet := SpecOK.upd o_rWait s_gMeet

/-! ### rMeet -/

def ish_rMeet : FSh := ⟨[.v true [.k (.n .u64), .k (.n .u64), .k (.n .u64), .k (.n .u64), .k (.n .u64), .k (.n .u64), .k (.n .u64), .k (.n .u64)], .v false [.k (.n .i64)]], []⟩
def osh_rMeet : FSh := ⟨[.tup [(false, [.k (.n .i64)]), (true, [.k (.n .u64), .k (.n .u64), .k (.n .u64), .k (.n .u64), .k (.n .u64), .k (.n .u64), .k (.n .u64), .k (.n .u64)]), (false, [.k .b])]], []⟩
def T_rMeet (x0 : Int) (x1 : Int) (x2 : Int) (x3 : Int) (x4 : Int) (x5 : Int) (x6 : Int) (x7 : Int) (x8 : Int) : Tr (List At) :=
 .br 0 (decide (Rng x0 x1 x2 x3 x4 x5 x6 x7))
 (.br 37 (bif !gate x0 x1 x2 x3 x4 x5 x6 x7 then true else bif x8 == (3 : Int) then bif !(bif gate x0 x1 x2 x3 x4 x5 x6 x7 then x0 % (16 : Int) else (0 : Int)) == (4 : Int) then bif x8 == (4 : Int) then !(bif gate x0 x1 x2 x3 x4 x5 x6 x7 then x0 % (16 : Int) else (0 : Int)) == (3 : Int) else true else false else bif x8 == (4 : Int) then !(bif gate x0 x1 x2 x3 x4 x5 x6 x7 then x0 % (16 : Int) else (0 : Int)) == (3 : Int) else true)
 (.ok [(.i ((0 : Int))), (.i ((0 : Int))), (.i ((0 : Int))), (.i ((0 : Int))), (.i ((0 : Int))), (.i ((0 : Int))), (.i ((0 : Int))), (.i ((0 : Int))), (.i ((0 : Int))), (.b (false))])
 (.br 41 ((↑(bif gate x0 x1 x2 x3 x4 x5 x6 x7 then cnt x0 else (0 : Nat)) : Int) == (1 : Int))
 (.br 45 (true && decide ((1 : Int) ≤ (↑(bif gate x0 x1 x2 x3 x4 x5 x6 x7 then cnt x0 else (0 : Nat)) : Int)))
 (.br 0 (decide (Int.toNat (↑(bif gate x0 x1 x2 x3 x4 x5 x6 x7 then cnt x0 else (0 : Nat)) : Int) - (1 : Nat) ≤ (9223372036854775807 : Nat)))
 (.br 50 (within (0 : Int) (bif gate x0 x1 x2 x3 x4 x5 x6 x7 then cnt x0 else (0 : Nat)))
 (.ok [(.i (gRows x1 x2 x3 x4 x5 x6 x7 (0 : Nat) (0 : Nat))), (.i (lineW (0 : Int) (Int.toNat (↑(bif gate x0 x1 x2 x3 x4 x5 x6 x7 then cnt x0 else (0 : Nat)) : Int) - (1 : Nat)) (fun (k : Nat) => gRows x1 x2 x3 x4 x5 x6 x7 ((1 : Nat) + k) (0 : Nat)) (0 : Nat))), (.i (lineW (0 : Int) (Int.toNat (↑(bif gate x0 x1 x2 x3 x4 x5 x6 x7 then cnt x0 else (0 : Nat)) : Int) - (1 : Nat)) (fun (k : Nat) => gRows x1 x2 x3 x4 x5 x6 x7 ((1 : Nat) + k) (0 : Nat)) (1 : Nat))), (.i (lineW (0 : Int) (Int.toNat (↑(bif gate x0 x1 x2 x3 x4 x5 x6 x7 then cnt x0 else (0 : Nat)) : Int) - (1 : Nat)) (fun (k : Nat) => gRows x1 x2 x3 x4 x5 x6 x7 ((1 : Nat) + k) (0 : Nat)) (2 : Nat))), (.i (lineW (0 : Int) (Int.toNat (↑(bif gate x0 x1 x2 x3 x4 x5 x6 x7 then cnt x0 else (0 : Nat)) : Int) - (1 : Nat)) (fun (k : Nat) => gRows x1 x2 x3 x4 x5 x6 x7 ((1 : Nat) + k) (0 : Nat)) (3 : Nat))), (.i (lineW (0 : Int) (Int.toNat (↑(bif gate x0 x1 x2 x3 x4 x5 x6 x7 then cnt x0 else (0 : Nat)) : Int) - (1 : Nat)) (fun (k : Nat) => gRows x1 x2 x3 x4 x5 x6 x7 ((1 : Nat) + k) (0 : Nat)) (4 : Nat))), (.i (lineW (0 : Int) (Int.toNat (↑(bif gate x0 x1 x2 x3 x4 x5 x6 x7 then cnt x0 else (0 : Nat)) : Int) - (1 : Nat)) (fun (k : Nat) => gRows x1 x2 x3 x4 x5 x6 x7 ((1 : Nat) + k) (0 : Nat)) (5 : Nat))), (.i (lineW (0 : Int) (Int.toNat (↑(bif gate x0 x1 x2 x3 x4 x5 x6 x7 then cnt x0 else (0 : Nat)) : Int) - (1 : Nat)) (fun (k : Nat) => gRows x1 x2 x3 x4 x5 x6 x7 ((1 : Nat) + k) (0 : Nat)) (6 : Nat))), (.i (lineW (0 : Int) (Int.toNat (↑(bif gate x0 x1 x2 x3 x4 x5 x6 x7 then cnt x0 else (0 : Nat)) : Int) - (1 : Nat)) (fun (k : Nat) => gRows x1 x2 x3 x4 x5 x6 x7 ((1 : Nat) + k) (0 : Nat)) (7 : Nat))), (.b (true))])
 (.no))
 (.no))
 (.no))
 (.br 45 (true && decide ((1 : Int) ≤ (↑(bif gate x0 x1 x2 x3 x4 x5 x6 x7 then cnt x0 else (0 : Nat)) : Int)))
 (.br 0 (decide (Int.toNat (↑(bif gate x0 x1 x2 x3 x4 x5 x6 x7 then cnt x0 else (0 : Nat)) : Int) - (1 : Nat) ≤ (9223372036854775807 : Nat)))
 (.br 50 (within (0 : Int) (bif gate x0 x1 x2 x3 x4 x5 x6 x7 then cnt x0 else (0 : Nat)))
 (.ok [(.i (gRows x1 x2 x3 x4 x5 x6 x7 (0 : Nat) (0 : Nat))), (.i (lineW (bif gate x0 x1 x2 x3 x4 x5 x6 x7 then x0 % (16 : Int) else (0 : Int)) (Int.toNat (↑(bif gate x0 x1 x2 x3 x4 x5 x6 x7 then cnt x0 else (0 : Nat)) : Int) - (1 : Nat)) (fun (k : Nat) => gRows x1 x2 x3 x4 x5 x6 x7 ((1 : Nat) + k) (0 : Nat)) (0 : Nat))), (.i (lineW (bif gate x0 x1 x2 x3 x4 x5 x6 x7 then x0 % (16 : Int) else (0 : Int)) (Int.toNat (↑(bif gate x0 x1 x2 x3 x4 x5 x6 x7 then cnt x0 else (0 : Nat)) : Int) - (1 : Nat)) (fun (k : Nat) => gRows x1 x2 x3 x4 x5 x6 x7 ((1 : Nat) + k) (0 : Nat)) (1 : Nat))), (.i (lineW (bif gate x0 x1 x2 x3 x4 x5 x6 x7 then x0 % (16 : Int) else (0 : Int)) (Int.toNat (↑(bif gate x0 x1 x2 x3 x4 x5 x6 x7 then cnt x0 else (0 : Nat)) : Int) - (1 : Nat)) (fun (k : Nat) => gRows x1 x2 x3 x4 x5 x6 x7 ((1 : Nat) + k) (0 : Nat)) (2 : Nat))), (.i (lineW (bif gate x0 x1 x2 x3 x4 x5 x6 x7 then x0 % (16 : Int) else (0 : Int)) (Int.toNat (↑(bif gate x0 x1 x2 x3 x4 x5 x6 x7 then cnt x0 else (0 : Nat)) : Int) - (1 : Nat)) (fun (k : Nat) => gRows x1 x2 x3 x4 x5 x6 x7 ((1 : Nat) + k) (0 : Nat)) (3 : Nat))), (.i (lineW (bif gate x0 x1 x2 x3 x4 x5 x6 x7 then x0 % (16 : Int) else (0 : Int)) (Int.toNat (↑(bif gate x0 x1 x2 x3 x4 x5 x6 x7 then cnt x0 else (0 : Nat)) : Int) - (1 : Nat)) (fun (k : Nat) => gRows x1 x2 x3 x4 x5 x6 x7 ((1 : Nat) + k) (0 : Nat)) (4 : Nat))), (.i (lineW (bif gate x0 x1 x2 x3 x4 x5 x6 x7 then x0 % (16 : Int) else (0 : Int)) (Int.toNat (↑(bif gate x0 x1 x2 x3 x4 x5 x6 x7 then cnt x0 else (0 : Nat)) : Int) - (1 : Nat)) (fun (k : Nat) => gRows x1 x2 x3 x4 x5 x6 x7 ((1 : Nat) + k) (0 : Nat)) (5 : Nat))), (.i (lineW (bif gate x0 x1 x2 x3 x4 x5 x6 x7 then x0 % (16 : Int) else (0 : Int)) (Int.toNat (↑(bif gate x0 x1 x2 x3 x4 x5 x6 x7 then cnt x0 else (0 : Nat)) : Int) - (1 : Nat)) (fun (k : Nat) => gRows x1 x2 x3 x4 x5 x6 x7 ((1 : Nat) + k) (0 : Nat)) (6 : Nat))), (.i (lineW (bif gate x0 x1 x2 x3 x4 x5 x6 x7 then x0 % (16 : Int) else (0 : Int)) (Int.toNat (↑(bif gate x0 x1 x2 x3 x4 x5 x6 x7 then cnt x0 else (0 : Nat)) : Int) - (1 : Nat)) (fun (k : Nat) => gRows x1 x2 x3 x4 x5 x6 x7 ((1 : Nat) + k) (0 : Nat)) (7 : Nat))), (.b (true))])
 (.no))
 (.no))
 (.no))))
 (.no)
def y_rMeet : Nat → Option Nat := (syJ [1000002] (syOf3 [20, 23, 28, 31, 37, 41, 45, 50] [] []))
def TL_rMeet (l : List At) : Tr (List At) := T_rMeet (aI l 0) (aI l 1) (aI l 2) (aI l 3) (aI l 4) (aI l 5) (aI l 6) (aI l 7) (aI l 8)
theorem e_rMeet (l : List At) : (call Try.prog Γ_gMeet y_rMeet noLoops 100 Try.f16 (mkV ish_rMeet l) (mkH ish_rMeet l)).bind (leafO 0 osh_rMeet) = TL_rMeet l := by kernel_rfl
def F_rMeet : List At → Tr (List At) := TL_rMeet
theorem s_rMeet : SpecF Try.prog 16 (.eff (locF ish_rMeet osh_rMeet F_rMeet)) :=
  spec_loc (sy := y_rMeet) (fuel := 100) (Lp := noLoops) o_gMeet mixed ⟨Try.func16, by kernel_rfl, by kernel_rfl⟩ ish_rMeet osh_rMeet (noLoops_ok _) (hT_ways e_rMeet)
def Γ_rMeet : Specs := upd Γ_gMeet 16 (.eff (locF ish_rMeet osh_rMeet F_rMeet))
theorem o_rMeet : SpecOK Try.prog Γ_rMeet := SpecOK.upd o_gMeet s_rMeet

end Go.Proofs.Ytepdekambalmhaa.G

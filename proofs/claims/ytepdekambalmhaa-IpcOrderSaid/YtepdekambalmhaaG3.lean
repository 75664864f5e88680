/-
  What functions of the seat compute, printed by a program from the explorer.
-/
import Derived.Test.YtepdekambalmhaaG2O
import Derived.KernelRfl
namespace Go.Proofs.Ytepdekambalmhaa.G
open Go Go.AM Go.Proofs
theorem f_gLine_7 : LoopF Try.prog 1 (loopAt Try.f8 7) (loopFn 1 lsh_gLine_7 xs_gLine_7 OL_gLine_7) :=
  loop_sat (sy := y_gLine_7) (fuel := 100) (Lp := noLoops) o_hasF mixed (loopsOK_at (noLoops_ok _) 7) rfl eB_gLine_7 rd_gLine_7
def Lp_gLine_7 : Loops := Loops.set noLoops 7 (loopFn 1 lsh_gLine_7 xs_gLine_7 OL_gLine_7)
theorem lk_gLine_7 : LoopsFn Try.prog 1 Lp_gLine_7 Try.f8 := loopsFn_set (noLoops_ok _) (by kernel_rfl) f_gLine_7

theorem f_rLine_7 : LoopF Try.prog 1 (loopAt Try.f9 7) (loopFn 1 lsh_rLine_7 xs_rLine_7 OL_rLine_7) :=
  loop_sat (sy := y_rLine_7) (fuel := 100) (Lp := noLoops) o_hasF mixed (loopsOK_at (noLoops_ok _) 7) rfl eB_rLine_7 rd_rLine_7
def Lp_rLine_7 : Loops := Loops.set noLoops 7 (loopFn 1 lsh_rLine_7 xs_rLine_7 OL_rLine_7)
theorem lk_rLine_7 : LoopsFn Try.prog 1 Lp_rLine_7 Try.f9 := loopsFn_set (noLoops_ok _) (by kernel_rfl) f_rLine_7

/-! ### gLine -/

def ish_gLine : FSh := ⟨[.v false [.k (.n .i64)], .v false [.vw 0 1]], [.rows [.n .i64] false]⟩
def osh_gLine : FSh := ⟨[.tup [(true, [.k (.n .u64), .k (.n .u64), .k (.n .u64), .k (.n .u64), .k (.n .u64), .k (.n .u64), .k (.n .u64), .k (.n .u64)]), (false, [.k (.n .i64)])]], [.no]⟩
def T_gLine (x0 : Int) (n1 : Nat) (g1 : Nat → Nat → Int) : Tr (List At) :=
 .br 13 (x0 == (0 : Int))
 (.br 32 (!(↑n1 : Int) == (0 : Int))
 (.br 36 (!bif r_waits_0 x0 then bif decide ((↑n1 : Int) > (0 : Int)) then decide ((↑n1 : Int) ≤ (7 : Int)) else false else false)
 (.ok [(.i ((0 : Int))), (.i ((0 : Int))), (.i ((0 : Int))), (.i ((0 : Int))), (.i ((0 : Int))), (.i ((0 : Int))), (.i ((0 : Int))), (.i ((0 : Int))), (.i ((1 : Int)))])
 (.br 0 (ok_hasF n1 fun (j cc : Nat) => g1 ((0 : Nat) + j) cc)
 (.br 39 (r_hasF_0 n1 fun (j cc : Nat) => g1 ((0 : Nat) + j) cc)
 (.ok [(.i ((0 : Int))), (.i ((0 : Int))), (.i ((0 : Int))), (.i ((0 : Int))), (.i ((0 : Int))), (.i ((0 : Int))), (.i ((0 : Int))), (.i ((0 : Int))), (.i ((1 : Int)))])
 (.br 0 (decide ((0 : Int) ≤ (0 : Int) ∧ (↑n1 : Int) = (↑n1 : Int) ∧ (0 : Int) ≤ (↑n1 : Int) ∧ (↑n1 : Int) ≤ (7 : Int)))
 (.ok [(.i (put (0 : Int) (↑n1 : Int) (fun (k : Nat) => g1 ((0 : Nat) + k) (0 : Nat)) (0 : Nat) (bits BinOp.or IntKind.u64 (IntKind.wrap IntKind.u64 x0) (IntKind.wrap IntKind.u64 (IntKind.wrap IntKind.u64 (↑n1 : Int) * (16 : Int)))))), (.i (put (0 : Int) (↑n1 : Int) (fun (k : Nat) => g1 ((0 : Nat) + k) (0 : Nat)) (1 : Nat) (0 : Int))), (.i (put (0 : Int) (↑n1 : Int) (fun (k : Nat) => g1 ((0 : Nat) + k) (0 : Nat)) (2 : Nat) (0 : Int))), (.i (put (0 : Int) (↑n1 : Int) (fun (k : Nat) => g1 ((0 : Nat) + k) (0 : Nat)) (3 : Nat) (0 : Int))), (.i (put (0 : Int) (↑n1 : Int) (fun (k : Nat) => g1 ((0 : Nat) + k) (0 : Nat)) (4 : Nat) (0 : Int))), (.i (put (0 : Int) (↑n1 : Int) (fun (k : Nat) => g1 ((0 : Nat) + k) (0 : Nat)) (5 : Nat) (0 : Int))), (.i (put (0 : Int) (↑n1 : Int) (fun (k : Nat) => g1 ((0 : Nat) + k) (0 : Nat)) (6 : Nat) (0 : Int))), (.i (put (0 : Int) (↑n1 : Int) (fun (k : Nat) => g1 ((0 : Nat) + k) (0 : Nat)) (7 : Nat) (0 : Int))), (.i ((0 : Int)))])
 (.no)))
 (.no)))
 (.br 0 (ok_hasF n1 fun (j cc : Nat) => g1 ((0 : Nat) + j) cc)
 (.br 39 (r_hasF_0 n1 fun (j cc : Nat) => g1 ((0 : Nat) + j) cc)
 (.ok [(.i ((0 : Int))), (.i ((0 : Int))), (.i ((0 : Int))), (.i ((0 : Int))), (.i ((0 : Int))), (.i ((0 : Int))), (.i ((0 : Int))), (.i ((0 : Int))), (.i ((1 : Int)))])
 (.br 0 (decide ((0 : Int) ≤ (0 : Int) ∧ (↑n1 : Int) = (↑n1 : Int) ∧ (0 : Int) ≤ (↑n1 : Int) ∧ (↑n1 : Int) ≤ (7 : Int)))
 (.ok [(.i (put (0 : Int) (↑n1 : Int) (fun (k : Nat) => g1 ((0 : Nat) + k) (0 : Nat)) (0 : Nat) (bits BinOp.or IntKind.u64 (IntKind.wrap IntKind.u64 x0) (IntKind.wrap IntKind.u64 (IntKind.wrap IntKind.u64 (↑n1 : Int) * (16 : Int)))))), (.i (put (0 : Int) (↑n1 : Int) (fun (k : Nat) => g1 ((0 : Nat) + k) (0 : Nat)) (1 : Nat) (0 : Int))), (.i (put (0 : Int) (↑n1 : Int) (fun (k : Nat) => g1 ((0 : Nat) + k) (0 : Nat)) (2 : Nat) (0 : Int))), (.i (put (0 : Int) (↑n1 : Int) (fun (k : Nat) => g1 ((0 : Nat) + k) (0 : Nat)) (3 : Nat) (0 : Int))), (.i (put (0 : Int) (↑n1 : Int) (fun (k : Nat) => g1 ((0 : Nat) + k) (0 : Nat)) (4 : Nat) (0 : Int))), (.i (put (0 : Int) (↑n1 : Int) (fun (k : Nat) => g1 ((0 : Nat) + k) (0 : Nat)) (5 : Nat) (0 : Int))), (.i (put (0 : Int) (↑n1 : Int) (fun (k : Nat) => g1 ((0 : Nat) + k) (0 : Nat)) (6 : Nat) (0 : Int))), (.i (put (0 : Int) (↑n1 : Int) (fun (k : Nat) => g1 ((0 : Nat) + k) (0 : Nat)) (7 : Nat) (0 : Int))), (.i ((0 : Int)))])
 (.no)))
 (.no)))
 (.br 32 (true)
 (.br 36 (!bif r_waits_0 x0 then bif decide ((↑n1 : Int) > (0 : Int)) then decide ((↑n1 : Int) ≤ (7 : Int)) else false else false)
 (.ok [(.i ((0 : Int))), (.i ((0 : Int))), (.i ((0 : Int))), (.i ((0 : Int))), (.i ((0 : Int))), (.i ((0 : Int))), (.i ((0 : Int))), (.i ((0 : Int))), (.i ((1 : Int)))])
 (.br 0 (ok_hasF n1 fun (j cc : Nat) => g1 ((0 : Nat) + j) cc)
 (.br 39 (r_hasF_0 n1 fun (j cc : Nat) => g1 ((0 : Nat) + j) cc)
 (.ok [(.i ((0 : Int))), (.i ((0 : Int))), (.i ((0 : Int))), (.i ((0 : Int))), (.i ((0 : Int))), (.i ((0 : Int))), (.i ((0 : Int))), (.i ((0 : Int))), (.i ((1 : Int)))])
 (.br 0 (decide ((0 : Int) ≤ (0 : Int) ∧ (↑n1 : Int) = (↑n1 : Int) ∧ (0 : Int) ≤ (↑n1 : Int) ∧ (↑n1 : Int) ≤ (7 : Int)))
 (.ok [(.i (put (0 : Int) (↑n1 : Int) (fun (k : Nat) => g1 ((0 : Nat) + k) (0 : Nat)) (0 : Nat) (bits BinOp.or IntKind.u64 (IntKind.wrap IntKind.u64 x0) (IntKind.wrap IntKind.u64 (IntKind.wrap IntKind.u64 (↑n1 : Int) * (16 : Int)))))), (.i (put (0 : Int) (↑n1 : Int) (fun (k : Nat) => g1 ((0 : Nat) + k) (0 : Nat)) (1 : Nat) (0 : Int))), (.i (put (0 : Int) (↑n1 : Int) (fun (k : Nat) => g1 ((0 : Nat) + k) (0 : Nat)) (2 : Nat) (0 : Int))), (.i (put (0 : Int) (↑n1 : Int) (fun (k : Nat) => g1 ((0 : Nat) + k) (0 : Nat)) (3 : Nat) (0 : Int))), (.i (put (0 : Int) (↑n1 : Int) (fun (k : Nat) => g1 ((0 : Nat) + k) (0 : Nat)) (4 : Nat) (0 : Int))), (.i (put (0 : Int) (↑n1 : Int) (fun (k : Nat) => g1 ((0 : Nat) + k) (0 : Nat)) (5 : Nat) (0 : Int))), (.i (put (0 : Int) (↑n1 : Int) (fun (k : Nat) => g1 ((0 : Nat) + k) (0 : Nat)) (6 : Nat) (0 : Int))), (.i (put (0 : Int) (↑n1 : Int) (fun (k : Nat) => g1 ((0 : Nat) + k) (0 : Nat)) (7 : Nat) (0 : Int))), (.i ((0 : Int)))])
 (.no)))
 (.no)))
 (.br 0 (ok_hasF n1 fun (j cc : Nat) => g1 ((0 : Nat) + j) cc)
 (.br 39 (r_hasF_0 n1 fun (j cc : Nat) => g1 ((0 : Nat) + j) cc)
 (.ok [(.i ((0 : Int))), (.i ((0 : Int))), (.i ((0 : Int))), (.i ((0 : Int))), (.i ((0 : Int))), (.i ((0 : Int))), (.i ((0 : Int))), (.i ((0 : Int))), (.i ((1 : Int)))])
 (.br 0 (decide ((0 : Int) ≤ (0 : Int) ∧ (↑n1 : Int) = (↑n1 : Int) ∧ (0 : Int) ≤ (↑n1 : Int) ∧ (↑n1 : Int) ≤ (7 : Int)))
 (.ok [(.i (put (0 : Int) (↑n1 : Int) (fun (k : Nat) => g1 ((0 : Nat) + k) (0 : Nat)) (0 : Nat) (bits BinOp.or IntKind.u64 (IntKind.wrap IntKind.u64 x0) (IntKind.wrap IntKind.u64 (IntKind.wrap IntKind.u64 (↑n1 : Int) * (16 : Int)))))), (.i (put (0 : Int) (↑n1 : Int) (fun (k : Nat) => g1 ((0 : Nat) + k) (0 : Nat)) (1 : Nat) (0 : Int))), (.i (put (0 : Int) (↑n1 : Int) (fun (k : Nat) => g1 ((0 : Nat) + k) (0 : Nat)) (2 : Nat) (0 : Int))), (.i (put (0 : Int) (↑n1 : Int) (fun (k : Nat) => g1 ((0 : Nat) + k) (0 : Nat)) (3 : Nat) (0 : Int))), (.i (put (0 : Int) (↑n1 : Int) (fun (k : Nat) => g1 ((0 : Nat) + k) (0 : Nat)) (4 : Nat) (0 : Int))), (.i (put (0 : Int) (↑n1 : Int) (fun (k : Nat) => g1 ((0 : Nat) + k) (0 : Nat)) (5 : Nat) (0 : Int))), (.i (put (0 : Int) (↑n1 : Int) (fun (k : Nat) => g1 ((0 : Nat) + k) (0 : Nat)) (6 : Nat) (0 : Int))), (.i (put (0 : Int) (↑n1 : Int) (fun (k : Nat) => g1 ((0 : Nat) + k) (0 : Nat)) (7 : Nat) (0 : Int))), (.i ((0 : Int)))])
 (.no)))
 (.no)))
def y_gLine : Nat → Option Nat := (syJ [1000002] (syOf3 [13, 20, 25, 32, 36, 39] [] []))
def TL_gLine (l : List At) : Tr (List At) := T_gLine (aI l 0) (aRn l 1) (aRg l 1)
theorem e_gLine (l : List At) : (call Try.prog Γ_hasF y_gLine Lp_gLine_7 100 Try.f8 (mkV ish_gLine l) (mkH ish_gLine l)).bind (leafO 1 osh_gLine) = TL_gLine l := by kernel_rfl
def r_gLine_0 (x0 : Int) (n1 : Nat) (g1 : Nat → Nat → Int) : Int :=
  bif x0 == (0 : Int) then (bif !(↑n1 : Int) == (0 : Int) then (bif !bif r_waits_0 x0 then bif decide ((↑n1 : Int) > (0 : Int)) then decide ((↑n1 : Int) ≤ (7 : Int)) else false else false then ((0 : Int))
  else bif ok_hasF n1 fun (j cc : Nat) => g1 ((0 : Nat) + j) cc then (bif r_hasF_0 n1 fun (j cc : Nat) => g1 ((0 : Nat) + j) cc then ((0 : Int))
  else bif decide ((0 : Int) ≤ (0 : Int) ∧ (↑n1 : Int) = (↑n1 : Int) ∧ (0 : Int) ≤ (↑n1 : Int) ∧ (↑n1 : Int) ≤ (7 : Int)) then (put (0 : Int) (↑n1 : Int) (fun (k : Nat) => g1 ((0 : Nat) + k) (0 : Nat)) (0 : Nat) (bits BinOp.or IntKind.u64 (IntKind.wrap IntKind.u64 x0) (IntKind.wrap IntKind.u64 (IntKind.wrap IntKind.u64 (↑n1 : Int) * (16 : Int)))))
  else 0)
  else 0)
  else bif ok_hasF n1 fun (j cc : Nat) => g1 ((0 : Nat) + j) cc then (bif r_hasF_0 n1 fun (j cc : Nat) => g1 ((0 : Nat) + j) cc then ((0 : Int))
  else bif decide ((0 : Int) ≤ (0 : Int) ∧ (↑n1 : Int) = (↑n1 : Int) ∧ (0 : Int) ≤ (↑n1 : Int) ∧ (↑n1 : Int) ≤ (7 : Int)) then (put (0 : Int) (↑n1 : Int) (fun (k : Nat) => g1 ((0 : Nat) + k) (0 : Nat)) (0 : Nat) (bits BinOp.or IntKind.u64 (IntKind.wrap IntKind.u64 x0) (IntKind.wrap IntKind.u64 (IntKind.wrap IntKind.u64 (↑n1 : Int) * (16 : Int)))))
  else 0)
  else 0)
  else bif true then (bif !bif r_waits_0 x0 then bif decide ((↑n1 : Int) > (0 : Int)) then decide ((↑n1 : Int) ≤ (7 : Int)) else false else false then ((0 : Int))
  else bif ok_hasF n1 fun (j cc : Nat) => g1 ((0 : Nat) + j) cc then (bif r_hasF_0 n1 fun (j cc : Nat) => g1 ((0 : Nat) + j) cc then ((0 : Int))
  else bif decide ((0 : Int) ≤ (0 : Int) ∧ (↑n1 : Int) = (↑n1 : Int) ∧ (0 : Int) ≤ (↑n1 : Int) ∧ (↑n1 : Int) ≤ (7 : Int)) then (put (0 : Int) (↑n1 : Int) (fun (k : Nat) => g1 ((0 : Nat) + k) (0 : Nat)) (0 : Nat) (bits BinOp.or IntKind.u64 (IntKind.wrap IntKind.u64 x0) (IntKind.wrap IntKind.u64 (IntKind.wrap IntKind.u64 (↑n1 : Int) * (16 : Int)))))
  else 0)
  else 0)
  else bif ok_hasF n1 fun (j cc : Nat) => g1 ((0 : Nat) + j) cc then (bif r_hasF_0 n1 fun (j cc : Nat) => g1 ((0 : Nat) + j) cc then ((0 : Int))
  else bif decide ((0 : Int) ≤ (0 : Int) ∧ (↑n1 : Int) = (↑n1 : Int) ∧ (0 : Int) ≤ (↑n1 : Int) ∧ (↑n1 : Int) ≤ (7 : Int)) then (put (0 : Int) (↑n1 : Int) (fun (k : Nat) => g1 ((0 : Nat) + k) (0 : Nat)) (0 : Nat) (bits BinOp.or IntKind.u64 (IntKind.wrap IntKind.u64 x0) (IntKind.wrap IntKind.u64 (IntKind.wrap IntKind.u64 (↑n1 : Int) * (16 : Int)))))
  else 0)
  else 0
def r_gLine_1 (x0 : Int) (n1 : Nat) (g1 : Nat → Nat → Int) : Int :=
  bif x0 == (0 : Int) then (bif !(↑n1 : Int) == (0 : Int) then (bif !bif r_waits_0 x0 then bif decide ((↑n1 : Int) > (0 : Int)) then decide ((↑n1 : Int) ≤ (7 : Int)) else false else false then ((0 : Int))
  else bif ok_hasF n1 fun (j cc : Nat) => g1 ((0 : Nat) + j) cc then (bif r_hasF_0 n1 fun (j cc : Nat) => g1 ((0 : Nat) + j) cc then ((0 : Int))
  else bif decide ((0 : Int) ≤ (0 : Int) ∧ (↑n1 : Int) = (↑n1 : Int) ∧ (0 : Int) ≤ (↑n1 : Int) ∧ (↑n1 : Int) ≤ (7 : Int)) then (put (0 : Int) (↑n1 : Int) (fun (k : Nat) => g1 ((0 : Nat) + k) (0 : Nat)) (1 : Nat) (0 : Int))
  else 0)
  else 0)
  else bif ok_hasF n1 fun (j cc : Nat) => g1 ((0 : Nat) + j) cc then (bif r_hasF_0 n1 fun (j cc : Nat) => g1 ((0 : Nat) + j) cc then ((0 : Int))
  else bif decide ((0 : Int) ≤ (0 : Int) ∧ (↑n1 : Int) = (↑n1 : Int) ∧ (0 : Int) ≤ (↑n1 : Int) ∧ (↑n1 : Int) ≤ (7 : Int)) then (put (0 : Int) (↑n1 : Int) (fun (k : Nat) => g1 ((0 : Nat) + k) (0 : Nat)) (1 : Nat) (0 : Int))
  else 0)
  else 0)
  else bif true then (bif !bif r_waits_0 x0 then bif decide ((↑n1 : Int) > (0 : Int)) then decide ((↑n1 : Int) ≤ (7 : Int)) else false else false then ((0 : Int))
  else bif ok_hasF n1 fun (j cc : Nat) => g1 ((0 : Nat) + j) cc then (bif r_hasF_0 n1 fun (j cc : Nat) => g1 ((0 : Nat) + j) cc then ((0 : Int))
  else bif decide ((0 : Int) ≤ (0 : Int) ∧ (↑n1 : Int) = (↑n1 : Int) ∧ (0 : Int) ≤ (↑n1 : Int) ∧ (↑n1 : Int) ≤ (7 : Int)) then (put (0 : Int) (↑n1 : Int) (fun (k : Nat) => g1 ((0 : Nat) + k) (0 : Nat)) (1 : Nat) (0 : Int))
  else 0)
  else 0)
  else bif ok_hasF n1 fun (j cc : Nat) => g1 ((0 : Nat) + j) cc then (bif r_hasF_0 n1 fun (j cc : Nat) => g1 ((0 : Nat) + j) cc then ((0 : Int))
  else bif decide ((0 : Int) ≤ (0 : Int) ∧ (↑n1 : Int) = (↑n1 : Int) ∧ (0 : Int) ≤ (↑n1 : Int) ∧ (↑n1 : Int) ≤ (7 : Int)) then (put (0 : Int) (↑n1 : Int) (fun (k : Nat) => g1 ((0 : Nat) + k) (0 : Nat)) (1 : Nat) (0 : Int))
  else 0)
  else 0
def r_gLine_2 (x0 : Int) (n1 : Nat) (g1 : Nat → Nat → Int) : Int :=
  bif x0 == (0 : Int) then (bif !(↑n1 : Int) == (0 : Int) then (bif !bif r_waits_0 x0 then bif decide ((↑n1 : Int) > (0 : Int)) then decide ((↑n1 : Int) ≤ (7 : Int)) else false else false then ((0 : Int))
  else bif ok_hasF n1 fun (j cc : Nat) => g1 ((0 : Nat) + j) cc then (bif r_hasF_0 n1 fun (j cc : Nat) => g1 ((0 : Nat) + j) cc then ((0 : Int))
  else bif decide ((0 : Int) ≤ (0 : Int) ∧ (↑n1 : Int) = (↑n1 : Int) ∧ (0 : Int) ≤ (↑n1 : Int) ∧ (↑n1 : Int) ≤ (7 : Int)) then (put (0 : Int) (↑n1 : Int) (fun (k : Nat) => g1 ((0 : Nat) + k) (0 : Nat)) (2 : Nat) (0 : Int))
  else 0)
  else 0)
  else bif ok_hasF n1 fun (j cc : Nat) => g1 ((0 : Nat) + j) cc then (bif r_hasF_0 n1 fun (j cc : Nat) => g1 ((0 : Nat) + j) cc then ((0 : Int))
  else bif decide ((0 : Int) ≤ (0 : Int) ∧ (↑n1 : Int) = (↑n1 : Int) ∧ (0 : Int) ≤ (↑n1 : Int) ∧ (↑n1 : Int) ≤ (7 : Int)) then (put (0 : Int) (↑n1 : Int) (fun (k : Nat) => g1 ((0 : Nat) + k) (0 : Nat)) (2 : Nat) (0 : Int))
  else 0)
  else 0)
  else bif true then (bif !bif r_waits_0 x0 then bif decide ((↑n1 : Int) > (0 : Int)) then decide ((↑n1 : Int) ≤ (7 : Int)) else false else false then ((0 : Int))
  else bif ok_hasF n1 fun (j cc : Nat) => g1 ((0 : Nat) + j) cc then (bif r_hasF_0 n1 fun (j cc : Nat) => g1 ((0 : Nat) + j) cc then ((0 : Int))
  else bif decide ((0 : Int) ≤ (0 : Int) ∧ (↑n1 : Int) = (↑n1 : Int) ∧ (0 : Int) ≤ (↑n1 : Int) ∧ (↑n1 : Int) ≤ (7 : Int)) then (put (0 : Int) (↑n1 : Int) (fun (k : Nat) => g1 ((0 : Nat) + k) (0 : Nat)) (2 : Nat) (0 : Int))
  else 0)
  else 0)
  else bif ok_hasF n1 fun (j cc : Nat) => g1 ((0 : Nat) + j) cc then (bif r_hasF_0 n1 fun (j cc : Nat) => g1 ((0 : Nat) + j) cc then ((0 : Int))
  else bif decide ((0 : Int) ≤ (0 : Int) ∧ (↑n1 : Int) = (↑n1 : Int) ∧ (0 : Int) ≤ (↑n1 : Int) ∧ (↑n1 : Int) ≤ (7 : Int)) then (put (0 : Int) (↑n1 : Int) (fun (k : Nat) => g1 ((0 : Nat) + k) (0 : Nat)) (2 : Nat) (0 : Int))
  else 0)
  else 0
def r_gLine_3 (x0 : Int) (n1 : Nat) (g1 : Nat → Nat → Int) : Int :=
  bif x0 == (0 : Int) then (bif !(↑n1 : Int) == (0 : Int) then (bif !bif r_waits_0 x0 then bif decide ((↑n1 : Int) > (0 : Int)) then decide ((↑n1 : Int) ≤ (7 : Int)) else false else false then ((0 : Int))
  else bif ok_hasF n1 fun (j cc : Nat) => g1 ((0 : Nat) + j) cc then (bif r_hasF_0 n1 fun (j cc : Nat) => g1 ((0 : Nat) + j) cc then ((0 : Int))
  else bif decide ((0 : Int) ≤ (0 : Int) ∧ (↑n1 : Int) = (↑n1 : Int) ∧ (0 : Int) ≤ (↑n1 : Int) ∧ (↑n1 : Int) ≤ (7 : Int)) then (put (0 : Int) (↑n1 : Int) (fun (k : Nat) => g1 ((0 : Nat) + k) (0 : Nat)) (3 : Nat) (0 : Int))
  else 0)
  else 0)
  else bif ok_hasF n1 fun (j cc : Nat) => g1 ((0 : Nat) + j) cc then (bif r_hasF_0 n1 fun (j cc : Nat) => g1 ((0 : Nat) + j) cc then ((0 : Int))
  else bif decide ((0 : Int) ≤ (0 : Int) ∧ (↑n1 : Int) = (↑n1 : Int) ∧ (0 : Int) ≤ (↑n1 : Int) ∧ (↑n1 : Int) ≤ (7 : Int)) then (put (0 : Int) (↑n1 : Int) (fun (k : Nat) => g1 ((0 : Nat) + k) (0 : Nat)) (3 : Nat) (0 : Int))
  else 0)
  else 0)
  else bif true then (bif !bif r_waits_0 x0 then bif decide ((↑n1 : Int) > (0 : Int)) then decide ((↑n1 : Int) ≤ (7 : Int)) else false else false then ((0 : Int))
  else bif ok_hasF n1 fun (j cc : Nat) => g1 ((0 : Nat) + j) cc then (bif r_hasF_0 n1 fun (j cc : Nat) => g1 ((0 : Nat) + j) cc then ((0 : Int))
  else bif decide ((0 : Int) ≤ (0 : Int) ∧ (↑n1 : Int) = (↑n1 : Int) ∧ (0 : Int) ≤ (↑n1 : Int) ∧ (↑n1 : Int) ≤ (7 : Int)) then (put (0 : Int) (↑n1 : Int) (fun (k : Nat) => g1 ((0 : Nat) + k) (0 : Nat)) (3 : Nat) (0 : Int))
  else 0)
  else 0)
  else bif ok_hasF n1 fun (j cc : Nat) => g1 ((0 : Nat) + j) cc then (bif r_hasF_0 n1 fun (j cc : Nat) => g1 ((0 : Nat) + j) cc then ((0 : Int))
  else bif decide ((0 : Int) ≤ (0 : Int) ∧ (↑n1 : Int) = (↑n1 : Int) ∧ (0 : Int) ≤ (↑n1 : Int) ∧ (↑n1 : Int) ≤ (7 : Int)) then (put (0 : Int) (↑n1 : Int) (fun (k : Nat) => g1 ((0 : Nat) + k) (0 : Nat)) (3 : Nat) (0 : Int))
  else 0)
  else 0
def r_gLine_4 (x0 : Int) (n1 : Nat) (g1 : Nat → Nat → Int) : Int :=
  bif x0 == (0 : Int) then (bif !(↑n1 : Int) == (0 : Int) then (bif !bif r_waits_0 x0 then bif decide ((↑n1 : Int) > (0 : Int)) then decide ((↑n1 : Int) ≤ (7 : Int)) else false else false then ((0 : Int))
  else bif ok_hasF n1 fun (j cc : Nat) => g1 ((0 : Nat) + j) cc then (bif r_hasF_0 n1 fun (j cc : Nat) => g1 ((0 : Nat) + j) cc then ((0 : Int))
  else bif decide ((0 : Int) ≤ (0 : Int) ∧ (↑n1 : Int) = (↑n1 : Int) ∧ (0 : Int) ≤ (↑n1 : Int) ∧ (↑n1 : Int) ≤ (7 : Int)) then (put (0 : Int) (↑n1 : Int) (fun (k : Nat) => g1 ((0 : Nat) + k) (0 : Nat)) (4 : Nat) (0 : Int))
  else 0)
  else 0)
  else bif ok_hasF n1 fun (j cc : Nat) => g1 ((0 : Nat) + j) cc then (bif r_hasF_0 n1 fun (j cc : Nat) => g1 ((0 : Nat) + j) cc then ((0 : Int))
  else bif decide ((0 : Int) ≤ (0 : Int) ∧ (↑n1 : Int) = (↑n1 : Int) ∧ (0 : Int) ≤ (↑n1 : Int) ∧ (↑n1 : Int) ≤ (7 : Int)) then (put (0 : Int) (↑n1 : Int) (fun (k : Nat) => g1 ((0 : Nat) + k) (0 : Nat)) (4 : Nat) (0 : Int))
  else 0)
  else 0)
  else bif true then (bif !bif r_waits_0 x0 then bif decide ((↑n1 : Int) > (0 : Int)) then decide ((↑n1 : Int) ≤ (7 : Int)) else false else false then ((0 : Int))
  else bif ok_hasF n1 fun (j cc : Nat) => g1 ((0 : Nat) + j) cc then (bif r_hasF_0 n1 fun (j cc : Nat) => g1 ((0 : Nat) + j) cc then ((0 : Int))
  else bif decide ((0 : Int) ≤ (0 : Int) ∧ (↑n1 : Int) = (↑n1 : Int) ∧ (0 : Int) ≤ (↑n1 : Int) ∧ (↑n1 : Int) ≤ (7 : Int)) then (put (0 : Int) (↑n1 : Int) (fun (k : Nat) => g1 ((0 : Nat) + k) (0 : Nat)) (4 : Nat) (0 : Int))
  else 0)
  else 0)
  else bif ok_hasF n1 fun (j cc : Nat) => g1 ((0 : Nat) + j) cc then (bif r_hasF_0 n1 fun (j cc : Nat) => g1 ((0 : Nat) + j) cc then ((0 : Int))
  else bif decide ((0 : Int) ≤ (0 : Int) ∧ (↑n1 : Int) = (↑n1 : Int) ∧ (0 : Int) ≤ (↑n1 : Int) ∧ (↑n1 : Int) ≤ (7 : Int)) then (put (0 : Int) (↑n1 : Int) (fun (k : Nat) => g1 ((0 : Nat) + k) (0 : Nat)) (4 : Nat) (0 : Int))
  else 0)
  else 0
def r_gLine_5 (x0 : Int) (n1 : Nat) (g1 : Nat → Nat → Int) : Int :=
  bif x0 == (0 : Int) then (bif !(↑n1 : Int) == (0 : Int) then (bif !bif r_waits_0 x0 then bif decide ((↑n1 : Int) > (0 : Int)) then decide ((↑n1 : Int) ≤ (7 : Int)) else false else false then ((0 : Int))
  else bif ok_hasF n1 fun (j cc : Nat) => g1 ((0 : Nat) + j) cc then (bif r_hasF_0 n1 fun (j cc : Nat) => g1 ((0 : Nat) + j) cc then ((0 : Int))
  else bif decide ((0 : Int) ≤ (0 : Int) ∧ (↑n1 : Int) = (↑n1 : Int) ∧ (0 : Int) ≤ (↑n1 : Int) ∧ (↑n1 : Int) ≤ (7 : Int)) then (put (0 : Int) (↑n1 : Int) (fun (k : Nat) => g1 ((0 : Nat) + k) (0 : Nat)) (5 : Nat) (0 : Int))
  else 0)
  else 0)
  else bif ok_hasF n1 fun (j cc : Nat) => g1 ((0 : Nat) + j) cc then (bif r_hasF_0 n1 fun (j cc : Nat) => g1 ((0 : Nat) + j) cc then ((0 : Int))
  else bif decide ((0 : Int) ≤ (0 : Int) ∧ (↑n1 : Int) = (↑n1 : Int) ∧ (0 : Int) ≤ (↑n1 : Int) ∧ (↑n1 : Int) ≤ (7 : Int)) then (put (0 : Int) (↑n1 : Int) (fun (k : Nat) => g1 ((0 : Nat) + k) (0 : Nat)) (5 : Nat) (0 : Int))
  else 0)
  else 0)
  else bif true then (bif !bif r_waits_0 x0 then bif decide ((↑n1 : Int) > (0 : Int)) then decide ((↑n1 : Int) ≤ (7 : Int)) else false else false then ((0 : Int))
  else bif ok_hasF n1 fun (j cc : Nat) => g1 ((0 : Nat) + j) cc then (bif r_hasF_0 n1 fun (j cc : Nat) => g1 ((0 : Nat) + j) cc then ((0 : Int))
  else bif decide ((0 : Int) ≤ (0 : Int) ∧ (↑n1 : Int) = (↑n1 : Int) ∧ (0 : Int) ≤ (↑n1 : Int) ∧ (↑n1 : Int) ≤ (7 : Int)) then (put (0 : Int) (↑n1 : Int) (fun (k : Nat) => g1 ((0 : Nat) + k) (0 : Nat)) (5 : Nat) (0 : Int))
  else 0)
  else 0)
  else bif ok_hasF n1 fun (j cc : Nat) => g1 ((0 : Nat) + j) cc then (bif r_hasF_0 n1 fun (j cc : Nat) => g1 ((0 : Nat) + j) cc then ((0 : Int))
  else bif decide ((0 : Int) ≤ (0 : Int) ∧ (↑n1 : Int) = (↑n1 : Int) ∧ (0 : Int) ≤ (↑n1 : Int) ∧ (↑n1 : Int) ≤ (7 : Int)) then (put (0 : Int) (↑n1 : Int) (fun (k : Nat) => g1 ((0 : Nat) + k) (0 : Nat)) (5 : Nat) (0 : Int))
  else 0)
  else 0
def r_gLine_6 (x0 : Int) (n1 : Nat) (g1 : Nat → Nat → Int) : Int :=
  bif x0 == (0 : Int) then (bif !(↑n1 : Int) == (0 : Int) then (bif !bif r_waits_0 x0 then bif decide ((↑n1 : Int) > (0 : Int)) then decide ((↑n1 : Int) ≤ (7 : Int)) else false else false then ((0 : Int))
  else bif ok_hasF n1 fun (j cc : Nat) => g1 ((0 : Nat) + j) cc then (bif r_hasF_0 n1 fun (j cc : Nat) => g1 ((0 : Nat) + j) cc then ((0 : Int))
  else bif decide ((0 : Int) ≤ (0 : Int) ∧ (↑n1 : Int) = (↑n1 : Int) ∧ (0 : Int) ≤ (↑n1 : Int) ∧ (↑n1 : Int) ≤ (7 : Int)) then (put (0 : Int) (↑n1 : Int) (fun (k : Nat) => g1 ((0 : Nat) + k) (0 : Nat)) (6 : Nat) (0 : Int))
  else 0)
  else 0)
  else bif ok_hasF n1 fun (j cc : Nat) => g1 ((0 : Nat) + j) cc then (bif r_hasF_0 n1 fun (j cc : Nat) => g1 ((0 : Nat) + j) cc then ((0 : Int))
  else bif decide ((0 : Int) ≤ (0 : Int) ∧ (↑n1 : Int) = (↑n1 : Int) ∧ (0 : Int) ≤ (↑n1 : Int) ∧ (↑n1 : Int) ≤ (7 : Int)) then (put (0 : Int) (↑n1 : Int) (fun (k : Nat) => g1 ((0 : Nat) + k) (0 : Nat)) (6 : Nat) (0 : Int))
  else 0)
  else 0)
  else bif true then (bif !bif r_waits_0 x0 then bif decide ((↑n1 : Int) > (0 : Int)) then decide ((↑n1 : Int) ≤ (7 : Int)) else false else false then ((0 : Int))
  else bif ok_hasF n1 fun (j cc : Nat) => g1 ((0 : Nat) + j) cc then (bif r_hasF_0 n1 fun (j cc : Nat) => g1 ((0 : Nat) + j) cc then ((0 : Int))
  else bif decide ((0 : Int) ≤ (0 : Int) ∧ (↑n1 : Int) = (↑n1 : Int) ∧ (0 : Int) ≤ (↑n1 : Int) ∧ (↑n1 : Int) ≤ (7 : Int)) then (put (0 : Int) (↑n1 : Int) (fun (k : Nat) => g1 ((0 : Nat) + k) (0 : Nat)) (6 : Nat) (0 : Int))
  else 0)
  else 0)
  else bif ok_hasF n1 fun (j cc : Nat) => g1 ((0 : Nat) + j) cc then (bif r_hasF_0 n1 fun (j cc : Nat) => g1 ((0 : Nat) + j) cc then ((0 : Int))
  else bif decide ((0 : Int) ≤ (0 : Int) ∧ (↑n1 : Int) = (↑n1 : Int) ∧ (0 : Int) ≤ (↑n1 : Int) ∧ (↑n1 : Int) ≤ (7 : Int)) then (put (0 : Int) (↑n1 : Int) (fun (k : Nat) => g1 ((0 : Nat) + k) (0 : Nat)) (6 : Nat) (0 : Int))
  else 0)
  else 0
def r_gLine_7 (x0 : Int) (n1 : Nat) (g1 : Nat → Nat → Int) : Int :=
  bif x0 == (0 : Int) then (bif !(↑n1 : Int) == (0 : Int) then (bif !bif r_waits_0 x0 then bif decide ((↑n1 : Int) > (0 : Int)) then decide ((↑n1 : Int) ≤ (7 : Int)) else false else false then ((0 : Int))
  else bif ok_hasF n1 fun (j cc : Nat) => g1 ((0 : Nat) + j) cc then (bif r_hasF_0 n1 fun (j cc : Nat) => g1 ((0 : Nat) + j) cc then ((0 : Int))
  else bif decide ((0 : Int) ≤ (0 : Int) ∧ (↑n1 : Int) = (↑n1 : Int) ∧ (0 : Int) ≤ (↑n1 : Int) ∧ (↑n1 : Int) ≤ (7 : Int)) then (put (0 : Int) (↑n1 : Int) (fun (k : Nat) => g1 ((0 : Nat) + k) (0 : Nat)) (7 : Nat) (0 : Int))
  else 0)
  else 0)
  else bif ok_hasF n1 fun (j cc : Nat) => g1 ((0 : Nat) + j) cc then (bif r_hasF_0 n1 fun (j cc : Nat) => g1 ((0 : Nat) + j) cc then ((0 : Int))
  else bif decide ((0 : Int) ≤ (0 : Int) ∧ (↑n1 : Int) = (↑n1 : Int) ∧ (0 : Int) ≤ (↑n1 : Int) ∧ (↑n1 : Int) ≤ (7 : Int)) then (put (0 : Int) (↑n1 : Int) (fun (k : Nat) => g1 ((0 : Nat) + k) (0 : Nat)) (7 : Nat) (0 : Int))
  else 0)
  else 0)
  else bif true then (bif !bif r_waits_0 x0 then bif decide ((↑n1 : Int) > (0 : Int)) then decide ((↑n1 : Int) ≤ (7 : Int)) else false else false then ((0 : Int))
  else bif ok_hasF n1 fun (j cc : Nat) => g1 ((0 : Nat) + j) cc then (bif r_hasF_0 n1 fun (j cc : Nat) => g1 ((0 : Nat) + j) cc then ((0 : Int))
  else bif decide ((0 : Int) ≤ (0 : Int) ∧ (↑n1 : Int) = (↑n1 : Int) ∧ (0 : Int) ≤ (↑n1 : Int) ∧ (↑n1 : Int) ≤ (7 : Int)) then (put (0 : Int) (↑n1 : Int) (fun (k : Nat) => g1 ((0 : Nat) + k) (0 : Nat)) (7 : Nat) (0 : Int))
  else 0)
  else 0)
  else bif ok_hasF n1 fun (j cc : Nat) => g1 ((0 : Nat) + j) cc then (bif r_hasF_0 n1 fun (j cc : Nat) => g1 ((0 : Nat) + j) cc then ((0 : Int))
  else bif decide ((0 : Int) ≤ (0 : Int) ∧ (↑n1 : Int) = (↑n1 : Int) ∧ (0 : Int) ≤ (↑n1 : Int) ∧ (↑n1 : Int) ≤ (7 : Int)) then (put (0 : Int) (↑n1 : Int) (fun (k : Nat) => g1 ((0 : Nat) + k) (0 : Nat)) (7 : Nat) (0 : Int))
  else 0)
  else 0
def r_gLine_8 (x0 : Int) (n1 : Nat) (g1 : Nat → Nat → Int) : Int :=
  bif x0 == (0 : Int) then (bif !(↑n1 : Int) == (0 : Int) then (bif !bif r_waits_0 x0 then bif decide ((↑n1 : Int) > (0 : Int)) then decide ((↑n1 : Int) ≤ (7 : Int)) else false else false then ((1 : Int))
  else bif ok_hasF n1 fun (j cc : Nat) => g1 ((0 : Nat) + j) cc then (bif r_hasF_0 n1 fun (j cc : Nat) => g1 ((0 : Nat) + j) cc then ((1 : Int))
  else bif decide ((0 : Int) ≤ (0 : Int) ∧ (↑n1 : Int) = (↑n1 : Int) ∧ (0 : Int) ≤ (↑n1 : Int) ∧ (↑n1 : Int) ≤ (7 : Int)) then ((0 : Int))
  else 0)
  else 0)
  else bif ok_hasF n1 fun (j cc : Nat) => g1 ((0 : Nat) + j) cc then (bif r_hasF_0 n1 fun (j cc : Nat) => g1 ((0 : Nat) + j) cc then ((1 : Int))
  else bif decide ((0 : Int) ≤ (0 : Int) ∧ (↑n1 : Int) = (↑n1 : Int) ∧ (0 : Int) ≤ (↑n1 : Int) ∧ (↑n1 : Int) ≤ (7 : Int)) then ((0 : Int))
  else 0)
  else 0)
  else bif true then (bif !bif r_waits_0 x0 then bif decide ((↑n1 : Int) > (0 : Int)) then decide ((↑n1 : Int) ≤ (7 : Int)) else false else false then ((1 : Int))
  else bif ok_hasF n1 fun (j cc : Nat) => g1 ((0 : Nat) + j) cc then (bif r_hasF_0 n1 fun (j cc : Nat) => g1 ((0 : Nat) + j) cc then ((1 : Int))
  else bif decide ((0 : Int) ≤ (0 : Int) ∧ (↑n1 : Int) = (↑n1 : Int) ∧ (0 : Int) ≤ (↑n1 : Int) ∧ (↑n1 : Int) ≤ (7 : Int)) then ((0 : Int))
  else 0)
  else 0)
  else bif ok_hasF n1 fun (j cc : Nat) => g1 ((0 : Nat) + j) cc then (bif r_hasF_0 n1 fun (j cc : Nat) => g1 ((0 : Nat) + j) cc then ((1 : Int))
  else bif decide ((0 : Int) ≤ (0 : Int) ∧ (↑n1 : Int) = (↑n1 : Int) ∧ (0 : Int) ≤ (↑n1 : Int) ∧ (↑n1 : Int) ≤ (7 : Int)) then ((0 : Int))
  else 0)
  else 0
def ok_gLine (x0 : Int) (n1 : Nat) (g1 : Nat → Nat → Int) : Bool :=
  bif x0 == (0 : Int) then (bif !(↑n1 : Int) == (0 : Int) then (bif !bif r_waits_0 x0 then bif decide ((↑n1 : Int) > (0 : Int)) then decide ((↑n1 : Int) ≤ (7 : Int)) else false else false then (true)
  else bif ok_hasF n1 fun (j cc : Nat) => g1 ((0 : Nat) + j) cc then (bif r_hasF_0 n1 fun (j cc : Nat) => g1 ((0 : Nat) + j) cc then (true)
  else bif decide ((0 : Int) ≤ (0 : Int) ∧ (↑n1 : Int) = (↑n1 : Int) ∧ (0 : Int) ≤ (↑n1 : Int) ∧ (↑n1 : Int) ≤ (7 : Int)) then (true)
  else false)
  else false)
  else bif ok_hasF n1 fun (j cc : Nat) => g1 ((0 : Nat) + j) cc then (bif r_hasF_0 n1 fun (j cc : Nat) => g1 ((0 : Nat) + j) cc then (true)
  else bif decide ((0 : Int) ≤ (0 : Int) ∧ (↑n1 : Int) = (↑n1 : Int) ∧ (0 : Int) ≤ (↑n1 : Int) ∧ (↑n1 : Int) ≤ (7 : Int)) then (true)
  else false)
  else false)
  else bif true then (bif !bif r_waits_0 x0 then bif decide ((↑n1 : Int) > (0 : Int)) then decide ((↑n1 : Int) ≤ (7 : Int)) else false else false then (true)
  else bif ok_hasF n1 fun (j cc : Nat) => g1 ((0 : Nat) + j) cc then (bif r_hasF_0 n1 fun (j cc : Nat) => g1 ((0 : Nat) + j) cc then (true)
  else bif decide ((0 : Int) ≤ (0 : Int) ∧ (↑n1 : Int) = (↑n1 : Int) ∧ (0 : Int) ≤ (↑n1 : Int) ∧ (↑n1 : Int) ≤ (7 : Int)) then (true)
  else false)
  else false)
  else bif ok_hasF n1 fun (j cc : Nat) => g1 ((0 : Nat) + j) cc then (bif r_hasF_0 n1 fun (j cc : Nat) => g1 ((0 : Nat) + j) cc then (true)
  else bif decide ((0 : Int) ≤ (0 : Int) ∧ (↑n1 : Int) = (↑n1 : Int) ∧ (0 : Int) ≤ (↑n1 : Int) ∧ (↑n1 : Int) ≤ (7 : Int)) then (true)
  else false)
  else false
def F_gLine : List At → Tr (List At) := fun l => .br 0 (ok_gLine (aI l 0) (aRn l 1) (aRg l 1)) (.ok [.i (r_gLine_0 (aI l 0) (aRn l 1) (aRg l 1)), .i (r_gLine_1 (aI l 0) (aRn l 1) (aRg l 1)), .i (r_gLine_2 (aI l 0) (aRn l 1) (aRg l 1)), .i (r_gLine_3 (aI l 0) (aRn l 1) (aRg l 1)), .i (r_gLine_4 (aI l 0) (aRn l 1) (aRg l 1)), .i (r_gLine_5 (aI l 0) (aRn l 1) (aRg l 1)), .i (r_gLine_6 (aI l 0) (aRn l 1) (aRg l 1)), .i (r_gLine_7 (aI l 0) (aRn l 1) (aRg l 1)), .i (r_gLine_8 (aI l 0) (aRn l 1) (aRg l 1))]) .no
theorem s_gLine : SpecF Try.prog 8 (.read (locR ish_gLine osh_gLine F_gLine)) :=
  spec_read (sy := y_gLine) (fuel := 100) (Lp := Lp_gLine_7) o_hasF mixed ⟨Try.func8, by kernel_rfl, by kernel_rfl⟩ ish_gLine osh_gLine (by kernel_rfl) lk_gLine_7 (hT_merged [.i, .i, .i, .i, .i, .i, .i, .i, .i] e_gLine (fun l => by kernel_rfl) (fun l => by kernel_rfl))
def Γ_gLine : Specs := upd Γ_hasF 8 (.read (locR ish_gLine osh_gLine F_gLine))
theorem o_gLine : SpecOK Try.prog Γ_gLine := SpecOK.upd o_hasF s_gLine

/-! ### rLine -/

def ish_rLine : FSh := ⟨[.v false [.k (.n .i64)], .v false [.vw 0 1]], [.rows [.n .i64] false]⟩
def osh_rLine : FSh := ⟨[.tup [(true, [.k (.n .u64), .k (.n .u64), .k (.n .u64), .k (.n .u64), .k (.n .u64), .k (.n .u64), .k (.n .u64), .k (.n .u64)]), (false, [.k (.n .i64)])]], [.no]⟩
def rLine_c3 (x0 : Int) (n1 : Nat) : Bool := bif x0 == (3 : Int) then bif decide ((↑n1 : Int) ≥ (1 : Int)) then decide ((↑n1 : Int) ≤ (7 : Int)) else false else bif x0 == (4 : Int) then bif decide ((↑n1 : Int) ≥ (1 : Int)) then decide ((↑n1 : Int) ≤ (7 : Int)) else false else false
def T_rLine (x0 : Int) (n1 : Nat) (g1 : Nat → Nat → Int) : Tr (List At) :=
 .br 36 (!bif x0 == (0 : Int) then bif (↑n1 : Int) == (0 : Int) then true else (rLine_c3 x0 n1) else (rLine_c3 x0 n1))
 (.ok [(.i ((0 : Int))), (.i ((0 : Int))), (.i ((0 : Int))), (.i ((0 : Int))), (.i ((0 : Int))), (.i ((0 : Int))), (.i ((0 : Int))), (.i ((0 : Int))), (.i ((1 : Int)))])
 (.br 0 (decide ((0 : Int) ≤ (0 : Int) ∧ (0 : Int) ≤ (↑n1 : Int) ∧ n1 ≤ (7 : Nat)))
 (.br 0 (decide (findI (fun (k : Nat) => decide (g1 ((0 : Nat) + k) (0 : Nat) < (0 : Int)) || decide (g1 ((0 : Nat) + k) (0 : Nat) ≥ (49 : Int))) (Int.toNat ((↑n1 : Int) - (0 : Int))) (0 : Nat) < n1))
 (.ok [(.i ((0 : Int))), (.i ((0 : Int))), (.i ((0 : Int))), (.i ((0 : Int))), (.i ((0 : Int))), (.i ((0 : Int))), (.i ((0 : Int))), (.i ((0 : Int))), (.i ((1 : Int)))])
 (.ok [(.i (put (0 : Int) (↑n1 : Int) (fun (k : Nat) => g1 ((0 : Nat) + k) (0 : Nat)) (0 : Nat) (bits BinOp.or IntKind.u64 (IntKind.wrap IntKind.u64 x0) (IntKind.wrap IntKind.u64 (IntKind.wrap IntKind.u64 (↑n1 : Int) * (16 : Int)))))), (.i (put (0 : Int) (↑n1 : Int) (fun (k : Nat) => g1 ((0 : Nat) + k) (0 : Nat)) (1 : Nat) (0 : Int))), (.i (put (0 : Int) (↑n1 : Int) (fun (k : Nat) => g1 ((0 : Nat) + k) (0 : Nat)) (2 : Nat) (0 : Int))), (.i (put (0 : Int) (↑n1 : Int) (fun (k : Nat) => g1 ((0 : Nat) + k) (0 : Nat)) (3 : Nat) (0 : Int))), (.i (put (0 : Int) (↑n1 : Int) (fun (k : Nat) => g1 ((0 : Nat) + k) (0 : Nat)) (4 : Nat) (0 : Int))), (.i (put (0 : Int) (↑n1 : Int) (fun (k : Nat) => g1 ((0 : Nat) + k) (0 : Nat)) (5 : Nat) (0 : Int))), (.i (put (0 : Int) (↑n1 : Int) (fun (k : Nat) => g1 ((0 : Nat) + k) (0 : Nat)) (6 : Nat) (0 : Int))), (.i (put (0 : Int) (↑n1 : Int) (fun (k : Nat) => g1 ((0 : Nat) + k) (0 : Nat)) (7 : Nat) (0 : Int))), (.i ((0 : Int)))]))
 (.no))
def y_rLine : Nat → Option Nat := (syJ [1000002] (syOf3 [12, 17, 20, 29, 36, 24] [] []))
def TL_rLine (l : List At) : Tr (List At) := T_rLine (aI l 0) (aRn l 1) (aRg l 1)
theorem e_rLine (l : List At) : (call Try.prog Γ_gLine y_rLine Lp_rLine_7 100 Try.f9 (mkV ish_rLine l) (mkH ish_rLine l)).bind (leafO 1 osh_rLine) = TL_rLine l := by kernel_rfl
def r_rLine_0 (x0 : Int) (n1 : Nat) (g1 : Nat → Nat → Int) : Int :=
  bif !bif x0 == (0 : Int) then bif (↑n1 : Int) == (0 : Int) then true else (rLine_c3 x0 n1) else (rLine_c3 x0 n1) then ((0 : Int))
  else bif decide ((0 : Int) ≤ (0 : Int) ∧ (0 : Int) ≤ (↑n1 : Int) ∧ n1 ≤ (7 : Nat)) then (bif decide (findI (fun (k : Nat) => decide (g1 ((0 : Nat) + k) (0 : Nat) < (0 : Int)) || decide (g1 ((0 : Nat) + k) (0 : Nat) ≥ (49 : Int))) (Int.toNat ((↑n1 : Int) - (0 : Int))) (0 : Nat) < n1) then ((0 : Int))
  else put (0 : Int) (↑n1 : Int) (fun (k : Nat) => g1 ((0 : Nat) + k) (0 : Nat)) (0 : Nat) (bits BinOp.or IntKind.u64 (IntKind.wrap IntKind.u64 x0) (IntKind.wrap IntKind.u64 (IntKind.wrap IntKind.u64 (↑n1 : Int) * (16 : Int)))))
  else 0
def r_rLine_1 (x0 : Int) (n1 : Nat) (g1 : Nat → Nat → Int) : Int :=
  bif !bif x0 == (0 : Int) then bif (↑n1 : Int) == (0 : Int) then true else (rLine_c3 x0 n1) else (rLine_c3 x0 n1) then ((0 : Int))
  else bif decide ((0 : Int) ≤ (0 : Int) ∧ (0 : Int) ≤ (↑n1 : Int) ∧ n1 ≤ (7 : Nat)) then (bif decide (findI (fun (k : Nat) => decide (g1 ((0 : Nat) + k) (0 : Nat) < (0 : Int)) || decide (g1 ((0 : Nat) + k) (0 : Nat) ≥ (49 : Int))) (Int.toNat ((↑n1 : Int) - (0 : Int))) (0 : Nat) < n1) then ((0 : Int))
  else put (0 : Int) (↑n1 : Int) (fun (k : Nat) => g1 ((0 : Nat) + k) (0 : Nat)) (1 : Nat) (0 : Int))
  else 0
def r_rLine_2 (x0 : Int) (n1 : Nat) (g1 : Nat → Nat → Int) : Int :=
  bif !bif x0 == (0 : Int) then bif (↑n1 : Int) == (0 : Int) then true else (rLine_c3 x0 n1) else (rLine_c3 x0 n1) then ((0 : Int))
  else bif decide ((0 : Int) ≤ (0 : Int) ∧ (0 : Int) ≤ (↑n1 : Int) ∧ n1 ≤ (7 : Nat)) then (bif decide (findI (fun (k : Nat) => decide (g1 ((0 : Nat) + k) (0 : Nat) < (0 : Int)) || decide (g1 ((0 : Nat) + k) (0 : Nat) ≥ (49 : Int))) (Int.toNat ((↑n1 : Int) - (0 : Int))) (0 : Nat) < n1) then ((0 : Int))
  else put (0 : Int) (↑n1 : Int) (fun (k : Nat) => g1 ((0 : Nat) + k) (0 : Nat)) (2 : Nat) (0 : Int))
  else 0
def r_rLine_3 (x0 : Int) (n1 : Nat) (g1 : Nat → Nat → Int) : Int :=
  bif !bif x0 == (0 : Int) then bif (↑n1 : Int) == (0 : Int) then true else (rLine_c3 x0 n1) else (rLine_c3 x0 n1) then ((0 : Int))
  else bif decide ((0 : Int) ≤ (0 : Int) ∧ (0 : Int) ≤ (↑n1 : Int) ∧ n1 ≤ (7 : Nat)) then (bif decide (findI (fun (k : Nat) => decide (g1 ((0 : Nat) + k) (0 : Nat) < (0 : Int)) || decide (g1 ((0 : Nat) + k) (0 : Nat) ≥ (49 : Int))) (Int.toNat ((↑n1 : Int) - (0 : Int))) (0 : Nat) < n1) then ((0 : Int))
  else put (0 : Int) (↑n1 : Int) (fun (k : Nat) => g1 ((0 : Nat) + k) (0 : Nat)) (3 : Nat) (0 : Int))
  else 0
def r_rLine_4 (x0 : Int) (n1 : Nat) (g1 : Nat → Nat → Int) : Int :=
  bif !bif x0 == (0 : Int) then bif (↑n1 : Int) == (0 : Int) then true else (rLine_c3 x0 n1) else (rLine_c3 x0 n1) then ((0 : Int))
  else bif decide ((0 : Int) ≤ (0 : Int) ∧ (0 : Int) ≤ (↑n1 : Int) ∧ n1 ≤ (7 : Nat)) then (bif decide (findI (fun (k : Nat) => decide (g1 ((0 : Nat) + k) (0 : Nat) < (0 : Int)) || decide (g1 ((0 : Nat) + k) (0 : Nat) ≥ (49 : Int))) (Int.toNat ((↑n1 : Int) - (0 : Int))) (0 : Nat) < n1) then ((0 : Int))
  else put (0 : Int) (↑n1 : Int) (fun (k : Nat) => g1 ((0 : Nat) + k) (0 : Nat)) (4 : Nat) (0 : Int))
  else 0
def r_rLine_5 (x0 : Int) (n1 : Nat) (g1 : Nat → Nat → Int) : Int :=
  bif !bif x0 == (0 : Int) then bif (↑n1 : Int) == (0 : Int) then true else (rLine_c3 x0 n1) else (rLine_c3 x0 n1) then ((0 : Int))
  else bif decide ((0 : Int) ≤ (0 : Int) ∧ (0 : Int) ≤ (↑n1 : Int) ∧ n1 ≤ (7 : Nat)) then (bif decide (findI (fun (k : Nat) => decide (g1 ((0 : Nat) + k) (0 : Nat) < (0 : Int)) || decide (g1 ((0 : Nat) + k) (0 : Nat) ≥ (49 : Int))) (Int.toNat ((↑n1 : Int) - (0 : Int))) (0 : Nat) < n1) then ((0 : Int))
  else put (0 : Int) (↑n1 : Int) (fun (k : Nat) => g1 ((0 : Nat) + k) (0 : Nat)) (5 : Nat) (0 : Int))
  else 0
def r_rLine_6 (x0 : Int) (n1 : Nat) (g1 : Nat → Nat → Int) : Int :=
  bif !bif x0 == (0 : Int) then bif (↑n1 : Int) == (0 : Int) then true else (rLine_c3 x0 n1) else (rLine_c3 x0 n1) then ((0 : Int))
  else bif decide ((0 : Int) ≤ (0 : Int) ∧ (0 : Int) ≤ (↑n1 : Int) ∧ n1 ≤ (7 : Nat)) then (bif decide (findI (fun (k : Nat) => decide (g1 ((0 : Nat) + k) (0 : Nat) < (0 : Int)) || decide (g1 ((0 : Nat) + k) (0 : Nat) ≥ (49 : Int))) (Int.toNat ((↑n1 : Int) - (0 : Int))) (0 : Nat) < n1) then ((0 : Int))
  else put (0 : Int) (↑n1 : Int) (fun (k : Nat) => g1 ((0 : Nat) + k) (0 : Nat)) (6 : Nat) (0 : Int))
  else 0
def r_rLine_7 (x0 : Int) (n1 : Nat) (g1 : Nat → Nat → Int) : Int :=
  bif !bif x0 == (0 : Int) then bif (↑n1 : Int) == (0 : Int) then true else (rLine_c3 x0 n1) else (rLine_c3 x0 n1) then ((0 : Int))
  else bif decide ((0 : Int) ≤ (0 : Int) ∧ (0 : Int) ≤ (↑n1 : Int) ∧ n1 ≤ (7 : Nat)) then (bif decide (findI (fun (k : Nat) => decide (g1 ((0 : Nat) + k) (0 : Nat) < (0 : Int)) || decide (g1 ((0 : Nat) + k) (0 : Nat) ≥ (49 : Int))) (Int.toNat ((↑n1 : Int) - (0 : Int))) (0 : Nat) < n1) then ((0 : Int))
  else put (0 : Int) (↑n1 : Int) (fun (k : Nat) => g1 ((0 : Nat) + k) (0 : Nat)) (7 : Nat) (0 : Int))
  else 0
def r_rLine_8 (x0 : Int) (n1 : Nat) (g1 : Nat → Nat → Int) : Int :=
  bif !bif x0 == (0 : Int) then bif (↑n1 : Int) == (0 : Int) then true else (rLine_c3 x0 n1) else (rLine_c3 x0 n1) then ((1 : Int))
  else bif decide ((0 : Int) ≤ (0 : Int) ∧ (0 : Int) ≤ (↑n1 : Int) ∧ n1 ≤ (7 : Nat)) then (bif decide (findI (fun (k : Nat) => decide (g1 ((0 : Nat) + k) (0 : Nat) < (0 : Int)) || decide (g1 ((0 : Nat) + k) (0 : Nat) ≥ (49 : Int))) (Int.toNat ((↑n1 : Int) - (0 : Int))) (0 : Nat) < n1) then ((1 : Int))
  else (0 : Int))
  else 0
def ok_rLine (x0 : Int) (n1 : Nat) (g1 : Nat → Nat → Int) : Bool :=
  bif !bif x0 == (0 : Int) then bif (↑n1 : Int) == (0 : Int) then true else (rLine_c3 x0 n1) else (rLine_c3 x0 n1) then (true)
  else bif decide ((0 : Int) ≤ (0 : Int) ∧ (0 : Int) ≤ (↑n1 : Int) ∧ n1 ≤ (7 : Nat)) then (bif decide (findI (fun (k : Nat) => decide (g1 ((0 : Nat) + k) (0 : Nat) < (0 : Int)) || decide (g1 ((0 : Nat) + k) (0 : Nat) ≥ (49 : Int))) (Int.toNat ((↑n1 : Int) - (0 : Int))) (0 : Nat) < n1) then (true)
  else true)
  else false
def F_rLine : List At → Tr (List At) := fun l => .br 0 (ok_rLine (aI l 0) (aRn l 1) (aRg l 1)) (.ok [.i (r_rLine_0 (aI l 0) (aRn l 1) (aRg l 1)), .i (r_rLine_1 (aI l 0) (aRn l 1) (aRg l 1)), .i (r_rLine_2 (aI l 0) (aRn l 1) (aRg l 1)), .i (r_rLine_3 (aI l 0) (aRn l 1) (aRg l 1)), .i (r_rLine_4 (aI l 0) (aRn l 1) (aRg l 1)), .i (r_rLine_5 (aI l 0) (aRn l 1) (aRg l 1)), .i (r_rLine_6 (aI l 0) (aRn l 1) (aRg l 1)), .i (r_rLine_7 (aI l 0) (aRn l 1) (aRg l 1)), .i (r_rLine_8 (aI l 0) (aRn l 1) (aRg l 1))]) .no
theorem s_rLine : SpecF Try.prog 9 (.read (locR ish_rLine osh_rLine F_rLine)) :=
  spec_read (sy := y_rLine) (fuel := 100) (Lp := Lp_rLine_7) o_gLine mixed ⟨Try.func9, by kernel_rfl, by kernel_rfl⟩ ish_rLine osh_rLine (by kernel_rfl) lk_rLine_7 (hT_merged [.i, .i, .i, .i, .i, .i, .i, .i, .i] e_rLine (fun l => by kernel_rfl) (fun l => by kernel_rfl))
def Γ_rLine : Specs := upd Γ_gLine 9 (.read (locR ish_rLine osh_rLine F_rLine))
theorem o_rLine : SpecOK Try.prog Γ_rLine := SpecOK.upd o_gLine s_rLine

end Go.Proofs.Ytepdekambalmhaa.G

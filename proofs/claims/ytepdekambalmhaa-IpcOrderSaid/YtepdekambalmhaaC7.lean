/-
  What functions of the seat compute, printed by a program from the explorer.
-/
import Derived.Test.YtepdekambalmhaaO6
import Derived.KernelRfl
namespace Go.Proofs.Ytepdekambalmhaa.G
open Go Go.AM Go.Proofs
theorem f_IpcOrder_22 : LoopF Try.prog 1 (loopAt Try.f5 22) (loopFn 1 lsh_IpcOrder_22 xs_IpcOrder_22 OL_IpcOrder_22) :=
  loop_sat (sy := y_IpcOrder_22) (fuel := 100) (Lp := Lp_IpcOrder_10) o_shown mixed (loopsOK_at lk_IpcOrder_10 22) rfl eB_IpcOrder_22 rd_IpcOrder_22
noncomputable def Lp_IpcOrder_22 : Loops := Loops.set Lp_IpcOrder_10 22 (loopFn 1 lsh_IpcOrder_22 xs_IpcOrder_22 OL_IpcOrder_22)
theorem lk_IpcOrder_22 : LoopsFn Try.prog 1 Lp_IpcOrder_22 Try.f5 := loopsFn_set lk_IpcOrder_10 (by kernel_rfl) f_IpcOrder_22

/-! ### IpcOrder -/

noncomputable def ish_IpcOrder : FSh := ⟨[.v false [.vw 0 1], .v false [.k .b]], [.rows [.n .i64] false]⟩
noncomputable def osh_IpcOrder : FSh := ⟨[.v false [.k .b]], [.no]⟩
noncomputable def T_IpcOrder (x0 : Bool) (n1 : Nat) (g1 : Nat → Nat → Int) : Tr (List At) :=
 .br 0 (true)
 (.br 25 (x0)
 (.br 0 (pdec (pre10 n1 (3 : Int) (0 : Int) (0 : Int) (0 : Int) (0 : Int) (0 : Int) (0 : Int) (0 : Int) (0 : Int) (0 : Int) (fun (k : Nat) => idv (g1 ((0 : Nat) + k) (0 : Nat))) (0 : Nat) fun (_ _ : Nat) => (0 : Int)))
 (.br 0 (pdec (pre22 (3 : Int) (4 : Int) (0 : Int) (lineAt (3 : Int) (min (min n1 (9 : Nat)) (7 : Nat)) (fun (k : Nat) => idv (g1 ((0 : Nat) + k) (0 : Nat))) (0 : Nat)) (lineAt (3 : Int) (min (min n1 (9 : Nat)) (7 : Nat)) (fun (k : Nat) => idv (g1 ((0 : Nat) + k) (0 : Nat))) (1 : Nat)) (lineAt (3 : Int) (min (min n1 (9 : Nat)) (7 : Nat)) (fun (k : Nat) => idv (g1 ((0 : Nat) + k) (0 : Nat))) (2 : Nat)) (lineAt (3 : Int) (min (min n1 (9 : Nat)) (7 : Nat)) (fun (k : Nat) => idv (g1 ((0 : Nat) + k) (0 : Nat))) (3 : Nat)) (lineAt (3 : Int) (min (min n1 (9 : Nat)) (7 : Nat)) (fun (k : Nat) => idv (g1 ((0 : Nat) + k) (0 : Nat))) (4 : Nat)) (lineAt (3 : Int) (min (min n1 (9 : Nat)) (7 : Nat)) (fun (k : Nat) => idv (g1 ((0 : Nat) + k) (0 : Nat))) (5 : Nat)) (lineAt (3 : Int) (min (min n1 (9 : Nat)) (7 : Nat)) (fun (k : Nat) => idv (g1 ((0 : Nat) + k) (0 : Nat))) (6 : Nat)) (lineAt (3 : Int) (min (min n1 (9 : Nat)) (7 : Nat)) (fun (k : Nat) => idv (g1 ((0 : Nat) + k) (0 : Nat))) (7 : Nat)) (min (min n1 (9 : Nat)) (7 : Nat)) (gcol fun (k : Nat) => idv (g1 ((0 : Nat) + k) (0 : Nat)))))
 (.br 0 (decide (Rng (0 : Int) (0 : Int) (0 : Int) (0 : Int) (0 : Int) (0 : Int) (0 : Int) (0 : Int)))
 (.ok [(.b (true))])
 (.no))
 (.no))
 (.no))
 (.br 0 (pdec (pre10 n1 (4 : Int) (0 : Int) (0 : Int) (0 : Int) (0 : Int) (0 : Int) (0 : Int) (0 : Int) (0 : Int) (0 : Int) (fun (k : Nat) => idv (g1 ((0 : Nat) + k) (0 : Nat))) (0 : Nat) fun (_ _ : Nat) => (0 : Int)))
 (.br 0 (pdec (pre22 (4 : Int) (3 : Int) (0 : Int) (lineAt (4 : Int) (min (min n1 (9 : Nat)) (7 : Nat)) (fun (k : Nat) => idv (g1 ((0 : Nat) + k) (0 : Nat))) (0 : Nat)) (lineAt (4 : Int) (min (min n1 (9 : Nat)) (7 : Nat)) (fun (k : Nat) => idv (g1 ((0 : Nat) + k) (0 : Nat))) (1 : Nat)) (lineAt (4 : Int) (min (min n1 (9 : Nat)) (7 : Nat)) (fun (k : Nat) => idv (g1 ((0 : Nat) + k) (0 : Nat))) (2 : Nat)) (lineAt (4 : Int) (min (min n1 (9 : Nat)) (7 : Nat)) (fun (k : Nat) => idv (g1 ((0 : Nat) + k) (0 : Nat))) (3 : Nat)) (lineAt (4 : Int) (min (min n1 (9 : Nat)) (7 : Nat)) (fun (k : Nat) => idv (g1 ((0 : Nat) + k) (0 : Nat))) (4 : Nat)) (lineAt (4 : Int) (min (min n1 (9 : Nat)) (7 : Nat)) (fun (k : Nat) => idv (g1 ((0 : Nat) + k) (0 : Nat))) (5 : Nat)) (lineAt (4 : Int) (min (min n1 (9 : Nat)) (7 : Nat)) (fun (k : Nat) => idv (g1 ((0 : Nat) + k) (0 : Nat))) (6 : Nat)) (lineAt (4 : Int) (min (min n1 (9 : Nat)) (7 : Nat)) (fun (k : Nat) => idv (g1 ((0 : Nat) + k) (0 : Nat))) (7 : Nat)) (min (min n1 (9 : Nat)) (7 : Nat)) (gcol fun (k : Nat) => idv (g1 ((0 : Nat) + k) (0 : Nat)))))
 (.br 0 (decide (Rng (0 : Int) (0 : Int) (0 : Int) (0 : Int) (0 : Int) (0 : Int) (0 : Int) (0 : Int)))
 (.ok [(.b (true))])
 (.no))
 (.no))
 (.no)))
 (.no)
noncomputable def y_IpcOrder : Nat → Option Nat := (syOf3 [25] [] [])
noncomputable def TL_IpcOrder (l : List At) : Tr (List At) := T_IpcOrder (aB l 0) (aRn l 1) (aRg l 1)
theorem e_IpcOrder (l : List At) : (call Try.prog Γ_shown y_IpcOrder Lp_IpcOrder_22 100 Try.f5 (mkV ish_IpcOrder l) (mkH ish_IpcOrder l)).bind (leafO ish_IpcOrder.hp.length ⟨[.v false [.k .b]], List.replicate ish_IpcOrder.hp.length .no⟩) = TL_IpcOrder l := by kernel_rfl

end Go.Proofs.Ytepdekambalmhaa.G

/-
  What functions of the seat compute, printed by a program from the explorer.
-/
import Derived.Test.YtepdekambalmhaaO5
import Derived.KernelRfl
namespace Go.Proofs.Ytepdekambalmhaa.G
open Go Go.AM Go.Proofs
theorem f_IpcOrder_10 : LoopF Try.prog 1 (loopAt Try.f5 10) (loopFn 1 lsh_IpcOrder_10 xs_IpcOrder_10 OL_IpcOrder_10) :=
  loop_sat (sy := y_IpcOrder_10) (fuel := 100) (Lp := noLoops) o_shown mixed (loopsOK_at (noLoops_ok _) 10) rfl eB_IpcOrder_10 rd_IpcOrder_10
noncomputable def Lp_IpcOrder_10 : Loops := Loops.set noLoops 10 (loopFn 1 lsh_IpcOrder_10 xs_IpcOrder_10 OL_IpcOrder_10)
theorem lk_IpcOrder_10 : LoopsFn Try.prog 1 Lp_IpcOrder_10 Try.f5 := loopsFn_set (noLoops_ok _) (by kernel_rfl) f_IpcOrder_10

/-! ### the loop at 22 of IpcOrder -/

noncomputable def lsh_IpcOrder_22 : FSh := ⟨[.any, .any, .any, .any, .any, .v false [.k .b], .v false [.k (.n .i64)], .v false [.k (.n .i64)], .v false [.p 1 0], .v false [.sw 2 1], .any, .any, .any, .any, .v false [.k (.n .i64)], .any, .any, .any, .any, .any, .any, .any, .any, .any, .any, .any, .any, .any, .any, .any, .any, .any, .any, .any, .any, .any, .any, .any, .any, .any, .any, .any, .any, .any, .any, .any, .any, .any, .any, .any, .any, .any, .any, .any, .any, .any, .any, .any, .any, .any, .any, .any, .any, .any, .any, .any, .any, .any, .any, .any, .any, .any, .any, .any, .any, .any, .any, .any, .any, .any, .any, .any, .any, .any, .any, .any, .any, .any, .any, .any, .any, .any, .any, .any, .any, .any, .any, .any, .any, .any, .any, .any, .any, .any, .any, .any, .any, .any, .any, .any, .any, .any, .any, .any, .any, .any, .any, .any, .any, .any, .any, .any, .any, .any, .any], [.no, .cells [.k (.n .u64), .k (.n .u64), .k (.n .u64), .k (.n .u64), .k (.n .u64), .k (.n .u64), .k (.n .u64), .k (.n .u64)], .rows [.n .i64] true]⟩
noncomputable def xsh_IpcOrder_22_0 : FSh := ⟨[.any, .any, .any, .any, .any, .v false [.k .b], .any, .v false [.k (.n .i64)], .v false [.p 1 0], .any, .any, .any, .any, .any, .any, .any, .any, .any, .any, .any, .any, .any, .any, .any, .any, .any, .any, .any, .any, .any, .any, .any, .any, .any, .any, .any, .any, .any, .any, .any, .any, .any, .any, .any, .any, .any, .any, .any, .any, .any, .any, .any, .any, .any, .any, .any, .any, .any, .any, .any, .any, .any, .any, .any, .any, .any, .any, .any, .any, .any, .any, .any, .any, .any, .any, .any, .any, .any, .any, .any, .any, .any, .any, .any, .any, .any, .any, .any, .any, .any, .any, .any, .any, .any, .any, .any, .any, .any, .any, .any, .any, .any, .any, .any, .any, .any, .any, .any, .any, .any, .any, .any, .any, .any, .any, .any, .any, .any, .any, .any, .any, .any, .any, .any, .any], [.no, .cells [.k (.n .u64), .k (.n .u64), .k (.n .u64), .k (.n .u64), .k (.n .u64), .k (.n .u64), .k (.n .u64), .k (.n .u64)]]⟩
noncomputable def xsh_IpcOrder_22_1 : FSh := ⟨[.any, .any, .any, .any, .v false [.k .b], .any, .any, .any, .any, .any, .any, .any, .any, .any, .any, .any, .any, .any, .any, .any, .any, .any, .any, .any, .any, .any, .any, .any, .any, .any, .any, .any, .any, .any, .any, .any, .any, .any, .any, .any, .any, .any, .any, .any, .any, .any, .any, .any, .any, .any, .any, .any, .any, .any, .any, .any, .any, .any, .any, .any, .any, .any, .any, .any, .any, .any, .any, .any, .any, .any, .any, .any, .any, .any, .any, .any, .any, .any, .any, .any, .any, .any, .any, .any, .any, .any, .any, .any, .any, .any, .any, .any, .any, .any, .any, .any, .any, .any, .any, .any, .any, .any, .any, .any, .any, .any, .any, .any, .any, .any, .any, .any, .any, .any, .any, .any, .any, .any, .any, .any, .any, .any, .any, .any, .any], [.no]⟩
noncomputable def xs_IpcOrder_22 : Exs := fun e => match e with
  | .normal => some lsh_IpcOrder_22
  | .exit n => (match Nat.beq n 2 with | true => some xsh_IpcOrder_22_0 | false => none)
  | .ret => some xsh_IpcOrder_22_1
noncomputable def B_IpcOrder_22 (x0 : Bool) (x1 : Int) (x2 : Int) (x3 : Int) (x4 : Int) (x5 : Int) (x6 : Int) (x7 : Int) (x8 : Int) (x9 : Int) (x10 : Int) (x11 : Int) (n12 : Nat) (g12 : Nat → Nat → Int) : Tr (Ex × List At) :=
 .br 77 (decide (x3 < (↑n12 : Int)))
 (.br 0 (decide (Rng x4 x5 x6 x7 x8 x9 x10 x11))
 (.br 0 (decide (Rng x4 x5 x6 x7 x8 x9 x10 x11))
 (.br 95 (meetB x4 x5 x6 x7 x8 x9 x10 x11 x1)
 (.ok (.ret, [(.b (false))]))
 (.br 99 (!meetB x4 x5 x6 x7 x8 x9 x10 x11 x2)
 (.ok (.ret, [(.b (false))]))
 (.br 103 (within x3 n12)
 (.br 106 (meetI x4 x5 x6 x7 x8 x9 x10 x11 x2 != g12 (Int.toNat x3) (0 : Nat))
 (.ok (.ret, [(.b (false))]))
 (.ok (.normal, [(.b (x0)), (.i (x1)), (.i (x2)), (.i (IntKind.wrap IntKind.i64 (x3 + (1 : Int)))), (.i (meetW x4 x5 x6 x7 x8 x9 x10 x11 x2 (0 : Nat))), (.i (meetW x4 x5 x6 x7 x8 x9 x10 x11 x2 (1 : Nat))), (.i (meetW x4 x5 x6 x7 x8 x9 x10 x11 x2 (2 : Nat))), (.i (meetW x4 x5 x6 x7 x8 x9 x10 x11 x2 (3 : Nat))), (.i (meetW x4 x5 x6 x7 x8 x9 x10 x11 x2 (4 : Nat))), (.i (meetW x4 x5 x6 x7 x8 x9 x10 x11 x2 (5 : Nat))), (.i (meetW x4 x5 x6 x7 x8 x9 x10 x11 x2 (6 : Nat))), (.i (meetW x4 x5 x6 x7 x8 x9 x10 x11 x2 (7 : Nat))), (.r (n12) (g12))])))
 (.no))))
 (.no))
 (.no))
 (.ok (.exit 2, [(.b (x0)), (.i (x2)), (.i (x4)), (.i (x5)), (.i (x6)), (.i (x7)), (.i (x8)), (.i (x9)), (.i (x10)), (.i (x11))]))
noncomputable def y_IpcOrder_22 : Nat → Option Nat := (syOf3 [77, 95, 99, 103, 106] [] [])
noncomputable def BL_IpcOrder_22 (l : List At) : Tr (Ex × List At) := B_IpcOrder_22 (aB l 0) (aI l 1) (aI l 2) (aI l 3) (aI l 4) (aI l 5) (aI l 6) (aI l 7) (aI l 8) (aI l 9) (aI l 10) (aI l 11) (aRn l 12) (aRg l 12)
theorem eB_IpcOrder_22 (l : List At) : (exec Try.prog Γ_shown y_IpcOrder_22 Lp_IpcOrder_10 100 (loopAt Try.f5 22) ⟨mkV lsh_IpcOrder_22 l, mkH lsh_IpcOrder_22 l⟩).bind (leafL 1 xs_IpcOrder_22) = BL_IpcOrder_22 l := by kernel_rfl
/- by hand: O_IpcOrder_22 (x0 : Bool) (x1 : Int) (x2 : Int) (x3 : Int) (x4 : Int) (x5 : Int) (x6 : Int) (x7 : Int) (x8 : Int) (x9 : Int) (x10 : Int) (x11 : Int) (n12 : Nat) (g12 : Nat → Nat → Int) : Tr (Ex × List At); OL_IpcOrder_22 (l) := O_IpcOrder_22 (aB l 0) (aI l 1) (aI l 2) (aI l 3) (aI l 4) (aI l 5) (aI l 6) (aI l 7) (aI l 8) (aI l 9) (aI l 10) (aI l 11) (aRn l 12) (aRg l 12); μ_IpcOrder_22 : List At → Nat; rd_IpcOrder_22 : ∀ l r, (OL_IpcOrder_22 l).val = some r → RoundA BL_IpcOrder_22 OL_IpcOrder_22 μ_IpcOrder_22 l r -/

end Go.Proofs.Ytepdekambalmhaa.G

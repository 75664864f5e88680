/-
  What functions of the seat compute, printed by a program from the explorer.
-/
import Derived.Test.YtgohhgkonbenbaaG1
import Derived.KernelRfl
namespace Go.Proofs.Ytgohhgkonbenbaa.G
open Go Go.AM Go.Proofs
/-! ### 4 -/

def T4 (x0 : Int) (x1 : Int) (x2 : Int) (x3 : Int) : Tr TV :=
 .br 0 (true)
 (.br 0 (ok12 x0 x1 x2 x3)
 (.br 27 (r12_1 x0 x1 x2 x3 != 0)
 (.ok (.v (.s (.b (r12_0 x0 x1 x2 x3 == 0)))))
 (.br 0 (ok14 x0 x1 x2)
 (.br 0 (ok12 x0 x1 x2 (r14_0 x0 x1 x2))
 (.br 0 (ok12 (r12_0 x0 x1 x2 x3) x1 x2 (r14_0 x0 x1 x2))
 (.br 0 (ok14 (r12_0 x0 x1 x2 x3) x1 x2)
 (.br 70 (r14_0 (r12_0 x0 x1 x2 x3) x1 x2 == x3)
 (.br 74 (r12_1 x0 x1 x2 (r14_0 x0 x1 x2) == 0)
 (.br 79 (r12_0 x0 x1 x2 (r14_0 x0 x1 x2) == x0)
 (.br 83 (r12_1 (r12_0 x0 x1 x2 x3) x1 x2 (r14_0 x0 x1 x2) == 0)
 (.ok (.v (.s (.b (r12_0 (r12_0 x0 x1 x2 x3) x1 x2 (r14_0 x0 x1 x2) == x0)))))
 (.ok (.v (.s (.b (false))))))
 (.ok (.v (.s (.b (false))))))
 (.ok (.v (.s (.b (false))))))
 (.ok (.v (.s (.b (false))))))
 (.no))
 (.no))
 (.no))
 (.no)))
 (.no))
 (.no)
def y4 : Nat → Option Nat := syOf [27, 70, 74, 79, 83]
theorem e4 (x0 : Int) (x1 : Int) (x2 : Int) (x3 : Int) : callV Try.prog Γ11 y4 noLoops 100 Try.f4 [.v (.s (.n .u64 x0)), .v (.agg [.n .i64 x1, .n .i64 x2]), .v (.s (.n .u64 x3))] [] = T4 x0 x1 x2 x3 := by kernel_rfl

/-! ### 5 -/

def T5 (x0 : Int) (x1 : Int) (x2 : Int) (x3 : Int) (x4 : Int) (x5 : Int) : Tr TV :=
 .br 0 (true)
 (.br 0 (ok12 x0 x1 x2 x5)
 (.br 29 (r12_1 x0 x1 x2 x5 != 0)
 (.ok (.v (.s (.b (true)))))
 (.br 34 (decide (x3 < 0))
 (.ok (.v (.s (.b (true)))))
 (.br 39 (decide (x3 > 63))
 (.ok (.v (.s (.b (true)))))
 (.br 44 (decide (x4 < 1))
 (.ok (.v (.s (.b (true)))))
 (.br 48 (decide (x4 > 64))
 (.ok (.v (.s (.b (true)))))
 (.br 58 (decide (x3 < IntKind.i64.wrap (x1 + x2)))
 (.br 67 (decide (x1 < IntKind.i64.wrap (x3 + x4)))
 (.ok (.v (.s (.b (true)))))
 (.br 0 (ok14 (r12_0 x0 x1 x2 x5) x3 x4)
 (.br 0 (ok14 x0 x3 x4)
 (.ok (.v (.s (.b (r14_0 (r12_0 x0 x1 x2 x5) x3 x4 == r14_0 x0 x3 x4)))))
 (.no))
 (.no)))
 (.br 0 (ok14 (r12_0 x0 x1 x2 x5) x3 x4)
 (.br 0 (ok14 x0 x3 x4)
 (.ok (.v (.s (.b (r14_0 (r12_0 x0 x1 x2 x5) x3 x4 == r14_0 x0 x3 x4)))))
 (.no))
 (.no))))))))
 (.no))
 (.no)
def y5 : Nat → Option Nat := syOf [29, 34, 39, 44, 48, 58, 67]
theorem e5 (x0 : Int) (x1 : Int) (x2 : Int) (x3 : Int) (x4 : Int) (x5 : Int) : callV Try.prog Γ11 y5 noLoops 100 Try.f5 [.v (.s (.n .u64 x0)), .v (.agg [.n .i64 x1, .n .i64 x2, .n .i64 x3, .n .i64 x4]), .v (.s (.n .u64 x5))] [] = T5 x0 x1 x2 x3 x4 x5 := by kernel_rfl

/-! ### 7 -/

def T7 (x0 : Int) (x1 : Int) (x2 : Int) (x3 : Int) : Tr TV :=
 .br 0 (true)
 (.br 17 (decide (x1 < 0))
 (.ok (.v (.s (.b (true)))))
 (.br 21 (decide (x1 > 63))
 (.ok (.v (.s (.b (true)))))
 (.br 25 (decide (x2 < 1))
 (.ok (.v (.s (.b (true)))))
 (.br 29 (decide (x2 > 64))
 (.ok (.v (.s (.b (true)))))
 (.br 33 (decide (x3 < 1))
 (.ok (.v (.s (.b (true)))))
 (.br 37 (decide (x3 > 64))
 (.ok (.v (.s (.b (true)))))
 (.br 44 (decide (IntKind.i64.wrap (IntKind.i64.wrap (x1 + x2) + x3) > 64))
 (.ok (.v (.s (.b (true)))))
 (.br 0 (ok14 x0 x1 (IntKind.i64.wrap (x2 + x3)))
 (.br 0 (ok14 x0 x1 x2)
 (.br 0 (ok14 x0 (IntKind.i64.wrap (x1 + x2)) x3)
 (.br 65 (decide (0 ≤ x2))
 (.ok (.v (.s (.b (r14_0 x0 x1 (IntKind.i64.wrap (x2 + x3)) ==   bits BinOp.or IntKind.u64 (r14_0 x0 x1 x2)     (IntKind.u64.wrap (r14_0 x0 (IntKind.i64.wrap (x1 + x2)) x3 * 2 ^ shiftN IntKind.u64 x2)))))))
 (.no))
 (.no))
 (.no))
 (.no)))))))))
 (.no)
def y7 : Nat → Option Nat := syOf [17, 21, 25, 29, 33, 37, 44, 65]
theorem e7 (x0 : Int) (x1 : Int) (x2 : Int) (x3 : Int) : callV Try.prog Γ11 y7 noLoops 100 Try.f7 [.v (.s (.n .u64 x0)), .v (.agg [.n .i64 x1, .n .i64 x2]), .v (.s (.n .i64 x3))] [] = T7 x0 x1 x2 x3 := by kernel_rfl

/-! ### 8 -/

def T8 (x0 : Int) (x1 : Int) (x2 : Int) : Tr TV :=
 .br 0 (true)
 (.br 0 (ok12 x0 x1 x2 0)
 (.br 21 (r12_1 x0 x1 x2 0 != 0)
 (.ok (.v (.s (.b (r12_1 x0 x1 x2 0 == 1)))))
 (.br 36 (decide (0 ≤ IntKind.i64.wrap (64 - x2)))
 (.br 0 (ok12 x0 x1 x2 (Int.fdiv 18446744073709551615 (2 ^ shiftN IntKind.u64 (IntKind.i64.wrap (64 - x2)))))
 (.br 0 (ok14 x0 x1 x2)
 (.br 51 (decide (0 ≤ x1))
 (.br 56 (bits BinOp.or IntKind.u64 (r12_0 x0 x1 x2 0) (IntKind.u64.wrap (r14_0 x0 x1 x2 * 2 ^ shiftN IntKind.u64 x1)) == x0)
 (.br 0 (ok14 (r12_0 x0 x1 x2 0) x1 x2)
 (.br 65 (r14_0 (r12_0 x0 x1 x2 0) x1 x2 == 0)
 (.br 69 (r12_1 x0 x1 x2 (Int.fdiv 18446744073709551615 (2 ^ shiftN IntKind.u64 (IntKind.i64.wrap (64 - x2)))) == 0)
 (.br 74 (decide (r12_0 x0 x1 x2 (Int.fdiv 18446744073709551615 (2 ^ shiftN IntKind.u64 (IntKind.i64.wrap (64 - x2)))) ≥ x0))
 (.ok (.v (.s (.b (bits BinOp.or IntKind.u64     (r12_0 x0 x1 x2 (Int.fdiv 18446744073709551615 (2 ^ shiftN IntKind.u64 (IntKind.i64.wrap (64 - x2))))) x0 ==   r12_0 x0 x1 x2 (Int.fdiv 18446744073709551615 (2 ^ shiftN IntKind.u64 (IntKind.i64.wrap (64 - x2)))))))))
 (.ok (.v (.s (.b (false))))))
 (.ok (.v (.s (.b (false))))))
 (.ok (.v (.s (.b (false))))))
 (.no))
 (.ok (.v (.s (.b (false))))))
 (.no))
 (.no))
 (.no))
 (.no)))
 (.no))
 (.no)
def y8 : Nat → Option Nat := syOf [21, 36, 51, 56, 65, 69, 74]
theorem e8 (x0 : Int) (x1 : Int) (x2 : Int) : callV Try.prog Γ11 y8 noLoops 100 Try.f8 [.v (.s (.n .u64 x0)), .v (.agg [.n .i64 x1, .n .i64 x2])] [] = T8 x0 x1 x2 := by kernel_rfl

end Go.Proofs.Ytgohhgkonbenbaa.G

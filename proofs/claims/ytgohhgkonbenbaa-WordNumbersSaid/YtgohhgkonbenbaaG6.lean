/-
  What functions of the seat compute, printed by a program from the explorer.
-/
import Derived.Test.YtgohhgkonbenbaaG1
import Derived.KernelRfl
namespace Go.Proofs.Ytgohhgkonbenbaa.G
open Go Go.AM Go.Proofs
/-! ### 6 -/

def T6 (x0 : Int) (x1 : Int) : Tr TV :=
 .br 0 (true)
 (.br 29 (r16_0 x0 x1 == r17_0 x0 x1)
 (.br 34 (r16_1 x0 x1 == r17_1 x0 x1)
 (.br 37 (r16_1 x0 x1 != 0)
 (.ok (.v (.s (.b (true)))))
 (.br 40 (decide (r16_0 x0 x1 ≥ 0))
 (.br 45 (decide (r16_0 x0 x1 ≤ x1))
 (.ok (.v (.s (.b (IntKind.u64.wrap (r16_0 x0 x1) == x0)))))
 (.ok (.v (.s (.b (false))))))
 (.ok (.v (.s (.b (false)))))))
 (.ok (.v (.s (.b (false))))))
 (.ok (.v (.s (.b (false))))))
 (.no)
def y6 : Nat → Option Nat := syOf [29, 34, 37, 40, 45]
theorem e6 (x0 : Int) (x1 : Int) : callV Try.prog Γ11 y6 noLoops 100 Try.f6 [.v (.s (.n .u64 x0)), .v (.s (.n .i64 x1))] [] = T6 x0 x1 := by kernel_rfl

end Go.Proofs.Ytgohhgkonbenbaa.G

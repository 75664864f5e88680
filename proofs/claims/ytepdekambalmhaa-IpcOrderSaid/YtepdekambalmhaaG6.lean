/-
  What functions of the seat compute, printed by a program from the explorer.
-/
import Derived.Test.YtepdekambalmhaaS5
import Derived.KernelRfl
namespace Go.Proofs.Ytepdekambalmhaa.G
open Go Go.AM Go.Proofs
/-! ### the loop at 4 of same -/

def lsh_same_4 : FSh := ⟨[.v false [.sq 0 1], .v false [.sq 1 1], .any, .any, .any, .v false [.k (.n .i64)], .any, .any, .any, .any, .any, .any, .any, .any, .any, .any, .any, .any, .any, .any, .any, .any, .any, .any, .any, .any], [.rows [.n .i64] false, .rows [.n .i64] false]⟩
def xsh_same_4_0 : FSh := ⟨[.any, .any, .any, .any, .any, .any, .any, .any, .any, .any, .any, .any, .any, .any, .any, .any, .any, .any, .any, .any, .any, .any, .any, .any, .any, .any], [.no, .no]⟩
def xsh_same_4_1 : FSh := ⟨[.any, .any, .any, .any, .v false [.k .b], .any, .any, .any, .any, .any, .any, .any, .any, .any, .any, .any, .any, .any, .any, .any, .any, .any, .any, .any, .any, .any], [.no, .no]⟩
def xs_same_4 : Exs := fun e => match e with
  | .normal => some lsh_same_4
  | .exit n => (match Nat.beq n 0 with | true => some xsh_same_4_0 | false => none)
  | .ret => some xsh_same_4_1
def B_same_4 (x0 : Nat) (x1 : Nat) (x2 : Nat) (x3 : Nat) (x4 : Int) (n5 : Nat) (g5 : Nat → Nat → Int) (n6 : Nat) (g6 : Nat → Nat → Int) : Tr (Ex × List At) :=
 .br 14 (decide (x4 < (↑x1 : Int)))
 (.br 19 (within x4 x1)
 (.br 23 (within x4 x3)
 (.br 25 (g5 (x0 + Int.toNat x4) (0 : Nat) != g6 (x2 + Int.toNat x4) (0 : Nat))
 (.ok (.ret, [(.b (false))]))
 (.ok (.normal, [(.n (x0)), (.n (x1)), (.n (x2)), (.n (x3)), (.i (IntKind.wrap IntKind.i64 (x4 + (1 : Int)))), (.r (n5) (g5)), (.r (n6) (g6))])))
 (.no))
 (.no))
 (.ok (.exit 0, []))
def y_same_4 : Nat → Option Nat := (syOf3 [14, 19, 23, 25] [] [])
def BL_same_4 (l : List At) : Tr (Ex × List At) := B_same_4 (aN l 0) (aN l 1) (aN l 2) (aN l 3) (aI l 4) (aRn l 5) (aRg l 5) (aRn l 6) (aRg l 6)
theorem eB_same_4 (l : List At) : (exec Try.prog Γ_S5 y_same_4 noLoops 100 (loopAt Try.f12 4) ⟨mkV lsh_same_4 l, mkH lsh_same_4 l⟩).bind (leafL 2 xs_same_4) = BL_same_4 l := by kernel_rfl
/- by hand: O_same_4 (x0 : Nat) (x1 : Nat) (x2 : Nat) (x3 : Nat) (x4 : Int) (n5 : Nat) (g5 : Nat → Nat → Int) (n6 : Nat) (g6 : Nat → Nat → Int) : Tr (Ex × List At); OL_same_4 (l) := O_same_4 (aN l 0) (aN l 1) (aN l 2) (aN l 3) (aI l 4) (aRn l 5) (aRg l 5) (aRn l 6) (aRg l 6); μ_same_4 : List At → Nat; rd_same_4 : ∀ l r, (OL_same_4 l).val = some r → RoundA BL_same_4 OL_same_4 μ_same_4 l r -/

end Go.Proofs.Ytepdekambalmhaa.G

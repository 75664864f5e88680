/-
  What functions of the seat compute, printed by a program from the explorer.
-/
import Derived.Test.YtepdekambalmhaaG7
import Derived.KernelRfl
namespace Go.Proofs.Ytepdekambalmhaa.G
open Go Go.AM Go.Proofs
/-! ### IpcWaits -/

def ish_IpcWaits : FSh := ⟨[.v true [.k (.n .u64), .k (.n .u64), .k (.n .u64), .k (.n .u64), .k (.n .u64), .k (.n .u64), .k (.n .u64), .k (.n .u64)], .v false [.k (.n .i64)], .v false [.k (.n .i64)]], []⟩
def osh_IpcWaits : FSh := ⟨[.v false [.k .b]], []⟩
def T_IpcWaits (x0 : Int) (x1 : Int) (x2 : Int) (x3 : Int) (x4 : Int) (x5 : Int) (x6 : Int) (x7 : Int) (x8 : Int) (x9 : Int) : Tr (List At) :=
 .br 0 (true)
 (.br 0 (decide (Rng x0 x1 x2 x3 x4 x5 x6 x7))
 (.br 0 (decide (Rng x0 x1 x2 x3 x4 x5 x6 x7))
 (.br 0 (decide (Rng x0 x1 x2 x3 x4 x5 x6 x7))
 (.br 0 (decide (Rng x0 x1 x2 x3 x4 x5 x6 x7))
 (.br 53 (waitW x0 x1 x2 x3 x4 x5 x6 x7 x8 x9 (0 : Nat) == waitW x0 x1 x2 x3 x4 x5 x6 x7 x8 x9 (0 : Nat) && (waitW x0 x1 x2 x3 x4 x5 x6 x7 x8 x9 (1 : Nat) == waitW x0 x1 x2 x3 x4 x5 x6 x7 x8 x9 (1 : Nat) && (waitW x0 x1 x2 x3 x4 x5 x6 x7 x8 x9 (2 : Nat) == waitW x0 x1 x2 x3 x4 x5 x6 x7 x8 x9 (2 : Nat) && (waitW x0 x1 x2 x3 x4 x5 x6 x7 x8 x9 (3 : Nat) == waitW x0 x1 x2 x3 x4 x5 x6 x7 x8 x9 (3 : Nat) && (waitW x0 x1 x2 x3 x4 x5 x6 x7 x8 x9 (4 : Nat) == waitW x0 x1 x2 x3 x4 x5 x6 x7 x8 x9 (4 : Nat) && (waitW x0 x1 x2 x3 x4 x5 x6 x7 x8 x9 (5 : Nat) == waitW x0 x1 x2 x3 x4 x5 x6 x7 x8 x9 (5 : Nat) && (waitW x0 x1 x2 x3 x4 x5 x6 x7 x8 x9 (6 : Nat) == waitW x0 x1 x2 x3 x4 x5 x6 x7 x8 x9 (6 : Nat) && (waitW x0 x1 x2 x3 x4 x5 x6 x7 x8 x9 (7 : Nat) == waitW x0 x1 x2 x3 x4 x5 x6 x7 x8 x9 (7 : Nat) && true))))))))
 (.br 58 (waitC x0 x1 x2 x3 x4 x5 x6 x7 x8 x9 == waitC x0 x1 x2 x3 x4 x5 x6 x7 x8 x9)
 (.br 63 (meetI x0 x1 x2 x3 x4 x5 x6 x7 x8 == meetI x0 x1 x2 x3 x4 x5 x6 x7 x8)
 (.br 68 (meetW x0 x1 x2 x3 x4 x5 x6 x7 x8 (0 : Nat) == meetW x0 x1 x2 x3 x4 x5 x6 x7 x8 (0 : Nat) && (meetW x0 x1 x2 x3 x4 x5 x6 x7 x8 (1 : Nat) == meetW x0 x1 x2 x3 x4 x5 x6 x7 x8 (1 : Nat) && (meetW x0 x1 x2 x3 x4 x5 x6 x7 x8 (2 : Nat) == meetW x0 x1 x2 x3 x4 x5 x6 x7 x8 (2 : Nat) && (meetW x0 x1 x2 x3 x4 x5 x6 x7 x8 (3 : Nat) == meetW x0 x1 x2 x3 x4 x5 x6 x7 x8 (3 : Nat) && (meetW x0 x1 x2 x3 x4 x5 x6 x7 x8 (4 : Nat) == meetW x0 x1 x2 x3 x4 x5 x6 x7 x8 (4 : Nat) && (meetW x0 x1 x2 x3 x4 x5 x6 x7 x8 (5 : Nat) == meetW x0 x1 x2 x3 x4 x5 x6 x7 x8 (5 : Nat) && (meetW x0 x1 x2 x3 x4 x5 x6 x7 x8 (6 : Nat) == meetW x0 x1 x2 x3 x4 x5 x6 x7 x8 (6 : Nat) && (meetW x0 x1 x2 x3 x4 x5 x6 x7 x8 (7 : Nat) == meetW x0 x1 x2 x3 x4 x5 x6 x7 x8 (7 : Nat) && true))))))))
 (.ok [(.b (meetB x0 x1 x2 x3 x4 x5 x6 x7 x8 == meetB x0 x1 x2 x3 x4 x5 x6 x7 x8))])
 (.ok [(.b (false))]))
 (.ok [(.b (false))]))
 (.ok [(.b (false))]))
 (.ok [(.b (false))]))
 (.no))
 (.no))
 (.no))
 (.no))
 (.no)
def y_IpcWaits : Nat → Option Nat := (syOf3 [53, 58, 63, 68] [] [])
def TL_IpcWaits (l : List At) : Tr (List At) := T_IpcWaits (aI l 0) (aI l 1) (aI l 2) (aI l 3) (aI l 4) (aI l 5) (aI l 6) (aI l 7) (aI l 8) (aI l 9)
theorem e_IpcWaits (l : List At) : (call Try.prog Γ_shown y_IpcWaits noLoops 100 Try.f4 (mkV ish_IpcWaits l) (mkH ish_IpcWaits l)).bind (leafO ish_IpcWaits.hp.length ⟨[.v false [.k .b]], List.replicate ish_IpcWaits.hp.length .no⟩) = TL_IpcWaits l := by kernel_rfl

end Go.Proofs.Ytepdekambalmhaa.G

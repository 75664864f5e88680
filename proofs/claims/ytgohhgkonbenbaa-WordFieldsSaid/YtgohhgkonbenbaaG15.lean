/-
  What functions of the seat compute, printed by a program from the explorer.
-/
import Derived.Test.YtgohhgkonbenbaaG24
import Derived.Test.YtgohhgkonbenbaaAmG
import Derived.KernelRfl
namespace Go.Proofs.Ytgohhgkonbenbaa.G
open Go Go.AM Go.Proofs
/-! ### the loop at 5 of 15 -/

def S15_5 (a : Nat → TV) (H : AH) (x7 : Int) (x8 : Int) (x0 : Int) (x1 : Int) (x2 : Int) : ASt := ⟨[.v (.s (.n .u64 x0)), .v (.s (.n .i64 x1)), .v (.s (.n .i64 x2)), a 3, a 4, a 5, a 6, .v (.s (.n .u64 x7)), .v (.s (.n .i64 x8)), a 9, a 10, a 11, a 12, .any, .any, .any, .any, .any, .any, .any, .any, .any, .any, .any, .any, .any, .any, a 27], H⟩
def B15_5 (a : Nat → TV) (H : AH) (x7 : Int) (x8 : Int) (x0 : Int) (x1 : Int) (x2 : Int) : Tr (Ex × ASt) :=
 .br 15 (decide (x8 < x2))
 (.br 0 (ok25 x0 (IntKind.i64.wrap (x1 + x8)))
 (.br 25 (decide (0 ≤ x8))
 (.ok (.normal, ⟨[(.v (.s (.n .u64 (x0)))), (.v (.s (.n .i64 (x1)))), (.v (.s (.n .i64 (x2)))), a 3, a 4, a 5, a 6, (.v (.s (.n .u64 (bits BinOp.or IntKind.u64 x7 (IntKind.u64.wrap (r25_0 x0 (IntKind.i64.wrap (x1 + x8)) * 2 ^ shiftN IntKind.u64 x8)))))), (.v (.s (.n .i64 (IntKind.i64.wrap (x8 + 1))))), a 9, a 10, a 11, a 12, (.v (.s (.n .i64 (x8)))), (.v (.s (.n .i64 (x2)))), (.k true), (.v (.s (.n .i64 (x8)))), (.v (.s (.n .i64 (IntKind.i64.wrap (x8 + 1))))), (.v (.s (.n .u64 (x7)))), (.v (.s (.n .u64 (x0)))), (.v (.s (.n .i64 (x1)))), (.v (.s (.n .i64 (x8)))), (.v (.s (.n .i64 (IntKind.i64.wrap (x1 + x8))))), (.v (.s (.n .u64 (r25_0 x0 (IntKind.i64.wrap (x1 + x8)))))), (.v (.s (.n .i64 (x8)))), (.v (.s (.n .u64 (IntKind.u64.wrap (r25_0 x0 (IntKind.i64.wrap (x1 + x8)) * 2 ^ shiftN IntKind.u64 x8))))), (.v (.s (.n .u64 (bits BinOp.or IntKind.u64 x7 (IntKind.u64.wrap (r25_0 x0 (IntKind.i64.wrap (x1 + x8)) * 2 ^ shiftN IntKind.u64 x8)))))), a 27], H⟩))
 (.no))
 (.no))
 (.ok (.exit 0, ⟨[(.v (.s (.n .u64 (x0)))), (.v (.s (.n .i64 (x1)))), (.v (.s (.n .i64 (x2)))), a 3, a 4, a 5, a 6, (.v (.s (.n .u64 (x7)))), (.v (.s (.n .i64 (x8)))), a 9, a 10, a 11, a 12, (.v (.s (.n .i64 (x8)))), (.v (.s (.n .i64 (x2)))), (.k false), .any, .any, .any, .any, .any, .any, .any, .any, .any, .any, .any, a 27], H⟩))
def yl15_5 : Nat → Option Nat := syOf [15, 25]
theorem eB15_5 (a : Nat → TV) (H : AH) (x7 : Int) (x8 : Int) (x0 : Int) (x1 : Int) (x2 : Int) : exec Try.prog Γ25 yl15_5 noLoops 100 (loopAt Try.f15 5) (S15_5 a H x7 x8 x0 x1 x2) = B15_5 a H x7 x8 x0 x1 x2 := by kernel_rfl

/-! ### the loop at 4 of 13 -/

def S13_4 (a : Nat → TV) (H : AH) (x10 : Int) (x3 : Int) : ASt := ⟨[a 0, a 1, a 2, .v (.s (.n .u64 x3)), a 4, a 5, a 6, a 7, .any, .any, .v (.s (.n .i64 x10)), a 11, a 12, a 13, a 14, a 15, a 16, .any, .any, .any, .any, .any, .any, .any, .any, a 25, a 26, a 27, a 28, a 29, a 30, a 31, a 32, a 33, a 34, a 35, a 36, a 37, a 38, a 39, a 40, a 41, a 42, a 43, a 44, a 45], H⟩
def B13_4 (a : Nat → TV) (H : AH) (x10 : Int) (x3 : Int) : Tr (Ex × ASt) :=
 .br 18 (decide (x10 < 64))
 (.br 0 (ok25 x3 x10)
 (.br 24 (r25_0 x3 x10 == 1)
 (.ok (.ret, ⟨[a 0, a 1, a 2, (.v (.s (.n .u64 (x3)))), a 4, a 5, a 6, a 7, (.v (.s (.n .u64 (0)))), (.v (.s (.n .i64 (2)))), (.v (.s (.n .i64 (x10)))), a 11, a 12, a 13, a 14, a 15, a 16, (.v (.s (.n .i64 (x10)))), (.k true), .any, .any, (.v (.s (.n .u64 (x3)))), (.v (.s (.n .i64 (x10)))), (.v (.s (.n .u64 (r25_0 x3 x10)))), (.k true), a 25, a 26, a 27, a 28, a 29, a 30, a 31, a 32, a 33, a 34, a 35, a 36, a 37, a 38, a 39, a 40, a 41, a 42, a 43, a 44, a 45], H⟩))
 (.ok (.normal, ⟨[a 0, a 1, a 2, (.v (.s (.n .u64 (x3)))), a 4, a 5, a 6, a 7, .any, .any, (.v (.s (.n .i64 (IntKind.i64.wrap (x10 + 1))))), a 11, a 12, a 13, a 14, a 15, a 16, (.v (.s (.n .i64 (x10)))), (.k true), (.v (.s (.n .i64 (x10)))), (.v (.s (.n .i64 (IntKind.i64.wrap (x10 + 1))))), (.v (.s (.n .u64 (x3)))), (.v (.s (.n .i64 (x10)))), (.v (.s (.n .u64 (r25_0 x3 x10)))), (.k false), a 25, a 26, a 27, a 28, a 29, a 30, a 31, a 32, a 33, a 34, a 35, a 36, a 37, a 38, a 39, a 40, a 41, a 42, a 43, a 44, a 45], H⟩)))
 (.no))
 (.ok (.exit 0, ⟨[a 0, a 1, a 2, (.v (.s (.n .u64 (x3)))), a 4, a 5, a 6, a 7, .any, .any, (.v (.s (.n .i64 (x10)))), a 11, a 12, a 13, a 14, a 15, a 16, (.v (.s (.n .i64 (x10)))), (.k false), .any, .any, .any, .any, .any, .any, a 25, a 26, a 27, a 28, a 29, a 30, a 31, a 32, a 33, a 34, a 35, a 36, a 37, a 38, a 39, a 40, a 41, a 42, a 43, a 44, a 45], H⟩))
def yl13_4 : Nat → Option Nat := syOf [18, 24]
theorem eB13_4 (a : Nat → TV) (H : AH) (x10 : Int) (x3 : Int) : exec Try.prog Γ25 yl13_4 noLoops 100 (loopAt Try.f13 4) (S13_4 a H x10 x3) = B13_4 a H x10 x3 := by kernel_rfl

/-! ### the loop at 9 of 13 -/

def S13_9 (a : Nat → TV) (H : AH) (x0 : Int) (x11 : Int) (x1 : Int) (x2 : Int) (x3 : Int) : ASt := ⟨[.v (.s (.n .u64 x0)), .v (.s (.n .i64 x1)), .v (.s (.n .i64 x2)), .v (.s (.n .u64 x3)), a 4, a 5, a 6, a 7, a 8, a 9, a 10, .v (.s (.n .i64 x11)), a 12, a 13, a 14, a 15, a 16, a 17, a 18, a 19, a 20, a 21, a 22, a 23, a 24, .any, .any, .any, .any, .any, .any, .any, .any, .any, .any, .any, .any, .any, .any, .any, .any, .any, .any, .any, .any, a 45], H⟩
def B13_9 (a : Nat → TV) (H : AH) (x0 : Int) (x11 : Int) (x1 : Int) (x2 : Int) (x3 : Int) : Tr (Ex × ASt) :=
 .br 27 (decide (x11 < x2))
 (.br 0 (ok25 x3 x11)
 (.br 0 (ok25 x0 (IntKind.i64.wrap (x1 + x11)))
 (.br 38 (r25_0 x3 x11 != r25_0 x0 (IntKind.i64.wrap (x1 + x11)))
 (.br 43 (decide (0 ≤ IntKind.i64.wrap (x1 + x11)))
 (.ok (.normal, ⟨[(.v (.s (.n .u64 (bits BinOp.xor IntKind.u64 x0 (IntKind.u64.wrap (1 * 2 ^ shiftN IntKind.u64 (IntKind.i64.wrap (x1 + x11)))))))), (.v (.s (.n .i64 (x1)))), (.v (.s (.n .i64 (x2)))), (.v (.s (.n .u64 (x3)))), a 4, a 5, a 6, a 7, a 8, a 9, a 10, (.v (.s (.n .i64 (IntKind.i64.wrap (x11 + 1))))), a 12, a 13, a 14, a 15, a 16, a 17, a 18, a 19, a 20, a 21, a 22, a 23, a 24, (.v (.s (.n .i64 (x11)))), (.v (.s (.n .i64 (x2)))), (.k true), (.v (.s (.n .i64 (x11)))), (.v (.s (.n .i64 (IntKind.i64.wrap (x11 + 1))))), (.v (.s (.n .u64 (x3)))), (.v (.s (.n .i64 (x11)))), (.v (.s (.n .u64 (r25_0 x3 x11)))), (.v (.s (.n .u64 (x0)))), (.v (.s (.n .i64 (x1)))), (.v (.s (.n .i64 (x11)))), (.v (.s (.n .i64 (IntKind.i64.wrap (x1 + x11))))), (.v (.s (.n .u64 (r25_0 x0 (IntKind.i64.wrap (x1 + x11)))))), (.k true), (.v (.s (.n .u64 (x0)))), (.v (.s (.n .i64 (x1)))), (.v (.s (.n .i64 (x11)))), (.v (.s (.n .i64 (IntKind.i64.wrap (x1 + x11))))), (.v (.s (.n .u64 (IntKind.u64.wrap (1 * 2 ^ shiftN IntKind.u64 (IntKind.i64.wrap (x1 + x11))))))), (.v (.s (.n .u64 (bits BinOp.xor IntKind.u64 x0 (IntKind.u64.wrap (1 * 2 ^ shiftN IntKind.u64 (IntKind.i64.wrap (x1 + x11)))))))), a 45], H⟩))
 (.no))
 (.ok (.normal, ⟨[(.v (.s (.n .u64 (x0)))), (.v (.s (.n .i64 (x1)))), (.v (.s (.n .i64 (x2)))), (.v (.s (.n .u64 (x3)))), a 4, a 5, a 6, a 7, a 8, a 9, a 10, (.v (.s (.n .i64 (IntKind.i64.wrap (x11 + 1))))), a 12, a 13, a 14, a 15, a 16, a 17, a 18, a 19, a 20, a 21, a 22, a 23, a 24, (.v (.s (.n .i64 (x11)))), (.v (.s (.n .i64 (x2)))), (.k true), (.v (.s (.n .i64 (x11)))), (.v (.s (.n .i64 (IntKind.i64.wrap (x11 + 1))))), (.v (.s (.n .u64 (x3)))), (.v (.s (.n .i64 (x11)))), (.v (.s (.n .u64 (r25_0 x3 x11)))), (.v (.s (.n .u64 (x0)))), (.v (.s (.n .i64 (x1)))), (.v (.s (.n .i64 (x11)))), (.v (.s (.n .i64 (IntKind.i64.wrap (x1 + x11))))), (.v (.s (.n .u64 (r25_0 x0 (IntKind.i64.wrap (x1 + x11)))))), (.k false), .any, .any, .any, .any, .any, .any, a 45], H⟩)))
 (.no))
 (.no))
 (.ok (.exit 2, ⟨[(.v (.s (.n .u64 (x0)))), (.v (.s (.n .i64 (x1)))), (.v (.s (.n .i64 (x2)))), (.v (.s (.n .u64 (x3)))), a 4, a 5, a 6, a 7, a 8, a 9, a 10, (.v (.s (.n .i64 (x11)))), a 12, a 13, a 14, a 15, a 16, a 17, a 18, a 19, a 20, a 21, a 22, a 23, a 24, (.v (.s (.n .i64 (x11)))), (.v (.s (.n .i64 (x2)))), (.k false), .any, .any, .any, .any, .any, .any, .any, .any, .any, .any, .any, .any, .any, .any, .any, .any, .any, a 45], H⟩))
def yl13_9 : Nat → Option Nat := syOf [27, 38, 43]
theorem eB13_9 (a : Nat → TV) (H : AH) (x0 : Int) (x11 : Int) (x1 : Int) (x2 : Int) (x3 : Int) : exec Try.prog Γ25 yl13_9 noLoops 100 (loopAt Try.f13 9) (S13_9 a H x0 x11 x1 x2 x3) = B13_9 a H x0 x11 x1 x2 x3 := by kernel_rfl

end Go.Proofs.Ytgohhgkonbenbaa.G

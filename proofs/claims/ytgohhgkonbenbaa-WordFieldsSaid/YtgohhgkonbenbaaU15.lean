/-
  What the loops of the reference's Field and With come to, by recursion on the rounds that are left.
-/
import Derived.Test.YtgohhgkonbenbaaG15
namespace Go.Proofs.Ytgohhgkonbenbaa.G
open Go Go.AM

def fieldL : Nat → Int → Int → Int → Int → Int
  | 0, x7, _, _, _ => x7
  | m + 1, x7, x8, x0, x1 => fieldL m (bits BinOp.or IntKind.u64 x7 (IntKind.u64.wrap (r25_0 x0 (IntKind.i64.wrap (x1 + x8)) * 2 ^ shiftN IntKind.u64 x8))) (IntKind.i64.wrap (x8 + 1)) x0 x1

def pre15_5 (_x7 x8 _x0 x1 x2 : Int) : Bool := decide (0 ≤ x8) && decide (x8 ≤ 64) && decide (0 ≤ x1) && decide (x1 ≤ 64) && decide (x2 ≤ 64)
def g15_5_0_7 (x7 x8 x0 x1 x2 : Int) : Int := fieldL (x2 - x8).toNat x7 x8 x0 x1

def anyL : Nat → Int → Int → Bool
  | 0, _, _ => false
  | m + 1, x10, x3 => (r25_0 x3 x10 == 1) || anyL m (IntKind.i64.wrap (x10 + 1)) x3

def pre13_4 (x10 _x3 : Int) : Bool := decide (0 ≤ x10) && decide (x10 ≤ 64)
def sel13_4_0 (x10 x3 : Int) : Bool := anyL (64 - x10).toNat x10 x3
def g13_4_0_8 (_x10 _x3 : Int) : Int := 0
def g13_4_0_9 (_x10 _x3 : Int) : Int := 2

def withL : Nat → Int → Int → Int → Int → Int
  | 0, x0, _, _, _ => x0
  | m + 1, x0, x11, x1, x3 => withL m (bif r25_0 x3 x11 != r25_0 x0 (IntKind.i64.wrap (x1 + x11)) then bits BinOp.xor IntKind.u64 x0 (IntKind.u64.wrap (1 * 2 ^ shiftN IntKind.u64 (IntKind.i64.wrap (x1 + x11)))) else x0) (IntKind.i64.wrap (x11 + 1)) x1 x3

def pre13_9 (_x0 x11 x1 x2 _x3 : Int) : Bool := decide (0 ≤ x11) && decide (x11 ≤ 64) && decide (0 ≤ x1) && decide (x1 ≤ 64) && decide (x2 ≤ 64)
def g13_9_0_0 (x0 x11 x1 x2 x3 : Int) : Int := withL (x2 - x11).toNat x0 x11 x1 x3
end Go.Proofs.Ytgohhgkonbenbaa.G

/-
  What functions of the seat compute, printed by a program from the explorer.
-/
import Derived.Test.YtgmhggipaopoiaaNvG4ToNvV1
import Derived.KernelRfl
section
namespace Go.Proofs.Ytgmhggipaopoiaa.G
open Go Go.AM Go.Proofs
/-! ### sFind -/

noncomputable def ish_sFind : FSh := ⟨[.v false [.p 0 0]], [.roc [.sw 1 25, .k .b, .k .b, .k (.n .i64), .k (.n .i64)], .nrows [.n .u64, .n .u64, .n .u64, .n .u64, .n .u64, .n .u64, .n .u64, .n .u64, .n .u64, .n .u64, .n .u64, .n .u64, .n .u64, .n .u64, .n .u64, .n .u64, .n .i64, .n .i64, .n .i64, .n .i64, .n .i64, .n .i64, .n .i64, .n .i64, .n .i64] 16 [.n .i64, .n .u64] 2 false false, .no]⟩
noncomputable def osh_sFind : FSh := ⟨[.tup [(true, [.k (.n .i64), .k (.n .i64), .k (.n .i64), .k (.n .i64)]), (false, [.k (.n .i64)]), (false, [.k (.n .i64)])]], [.no, .no, .no]⟩
noncomputable def sFind_c0 (x0 : Bool) (x1 : Bool) (x2 : Int) (x3 : Int) (n4 : Nat) (g4 : Nat → Nat → Int) (h4 : Nat → Nat → Int) : Int := r_sBest_0 (Mem.ldW { n := n4, g := g4, h := h4, off := x0, burns := x1, left := x2, steps := x3 } (0 : Int) (0 : Nat)) (Mem.ldW { n := n4, g := g4, h := h4, off := x0, burns := x1, left := x2, steps := x3 } (0 : Int) (1 : Nat)) (Mem.ldW { n := n4, g := g4, h := h4, off := x0, burns := x1, left := x2, steps := x3 } (0 : Int) (2 : Nat)) (Mem.ldW { n := n4, g := g4, h := h4, off := x0, burns := x1, left := x2, steps := x3 } (0 : Int) (3 : Nat)) (Mem.ldW { n := n4, g := g4, h := h4, off := x0, burns := x1, left := x2, steps := x3 } (0 : Int) (4 : Nat)) (Mem.ldW { n := n4, g := g4, h := h4, off := x0, burns := x1, left := x2, steps := x3 } (0 : Int) (5 : Nat)) (Mem.ldW { n := n4, g := g4, h := h4, off := x0, burns := x1, left := x2, steps := x3 } (0 : Int) (6 : Nat)) (Mem.ldW { n := n4, g := g4, h := h4, off := x0, burns := x1, left := x2, steps := x3 } (0 : Int) (7 : Nat)) (Mem.ldW { n := n4, g := g4, h := h4, off := x0, burns := x1, left := x2, steps := x3 } (1 : Int) (0 : Nat)) (Mem.ldW { n := n4, g := g4, h := h4, off := x0, burns := x1, left := x2, steps := x3 } (1 : Int) (1 : Nat)) (Mem.ldW { n := n4, g := g4, h := h4, off := x0, burns := x1, left := x2, steps := x3 } (1 : Int) (2 : Nat)) (Mem.ldW { n := n4, g := g4, h := h4, off := x0, burns := x1, left := x2, steps := x3 } (1 : Int) (3 : Nat)) (Mem.ldW { n := n4, g := g4, h := h4, off := x0, burns := x1, left := x2, steps := x3 } (1 : Int) (4 : Nat)) (Mem.ldW { n := n4, g := g4, h := h4, off := x0, burns := x1, left := x2, steps := x3 } (1 : Int) (5 : Nat)) (Mem.ldW { n := n4, g := g4, h := h4, off := x0, burns := x1, left := x2, steps := x3 } (1 : Int) (6 : Nat)) (Mem.ldW { n := n4, g := g4, h := h4, off := x0, burns := x1, left := x2, steps := x3 } (1 : Int) (7 : Nat))
noncomputable def sFind_c1 (x0 : Bool) (x1 : Bool) (x2 : Int) (x3 : Int) (n4 : Nat) (g4 : Nat → Nat → Int) (h4 : Nat → Nat → Int) : Int := r_sBest_1 (Mem.ldW { n := n4, g := g4, h := h4, off := x0, burns := x1, left := x2, steps := x3 } (0 : Int) (0 : Nat)) (Mem.ldW { n := n4, g := g4, h := h4, off := x0, burns := x1, left := x2, steps := x3 } (0 : Int) (1 : Nat)) (Mem.ldW { n := n4, g := g4, h := h4, off := x0, burns := x1, left := x2, steps := x3 } (0 : Int) (2 : Nat)) (Mem.ldW { n := n4, g := g4, h := h4, off := x0, burns := x1, left := x2, steps := x3 } (0 : Int) (3 : Nat)) (Mem.ldW { n := n4, g := g4, h := h4, off := x0, burns := x1, left := x2, steps := x3 } (0 : Int) (4 : Nat)) (Mem.ldW { n := n4, g := g4, h := h4, off := x0, burns := x1, left := x2, steps := x3 } (0 : Int) (5 : Nat)) (Mem.ldW { n := n4, g := g4, h := h4, off := x0, burns := x1, left := x2, steps := x3 } (0 : Int) (6 : Nat)) (Mem.ldW { n := n4, g := g4, h := h4, off := x0, burns := x1, left := x2, steps := x3 } (0 : Int) (7 : Nat)) (Mem.ldW { n := n4, g := g4, h := h4, off := x0, burns := x1, left := x2, steps := x3 } (1 : Int) (0 : Nat)) (Mem.ldW { n := n4, g := g4, h := h4, off := x0, burns := x1, left := x2, steps := x3 } (1 : Int) (1 : Nat)) (Mem.ldW { n := n4, g := g4, h := h4, off := x0, burns := x1, left := x2, steps := x3 } (1 : Int) (2 : Nat)) (Mem.ldW { n := n4, g := g4, h := h4, off := x0, burns := x1, left := x2, steps := x3 } (1 : Int) (3 : Nat)) (Mem.ldW { n := n4, g := g4, h := h4, off := x0, burns := x1, left := x2, steps := x3 } (1 : Int) (4 : Nat)) (Mem.ldW { n := n4, g := g4, h := h4, off := x0, burns := x1, left := x2, steps := x3 } (1 : Int) (5 : Nat)) (Mem.ldW { n := n4, g := g4, h := h4, off := x0, burns := x1, left := x2, steps := x3 } (1 : Int) (6 : Nat)) (Mem.ldW { n := n4, g := g4, h := h4, off := x0, burns := x1, left := x2, steps := x3 } (1 : Int) (7 : Nat))
noncomputable def sFind_c2 (x0 : Bool) (x1 : Bool) (x2 : Int) (x3 : Int) (n4 : Nat) (g4 : Nat → Nat → Int) (h4 : Nat → Nat → Int) : Int := r_sBest_2 (Mem.ldW { n := n4, g := g4, h := h4, off := x0, burns := x1, left := x2, steps := x3 } (0 : Int) (0 : Nat)) (Mem.ldW { n := n4, g := g4, h := h4, off := x0, burns := x1, left := x2, steps := x3 } (0 : Int) (1 : Nat)) (Mem.ldW { n := n4, g := g4, h := h4, off := x0, burns := x1, left := x2, steps := x3 } (0 : Int) (2 : Nat)) (Mem.ldW { n := n4, g := g4, h := h4, off := x0, burns := x1, left := x2, steps := x3 } (0 : Int) (3 : Nat)) (Mem.ldW { n := n4, g := g4, h := h4, off := x0, burns := x1, left := x2, steps := x3 } (0 : Int) (4 : Nat)) (Mem.ldW { n := n4, g := g4, h := h4, off := x0, burns := x1, left := x2, steps := x3 } (0 : Int) (5 : Nat)) (Mem.ldW { n := n4, g := g4, h := h4, off := x0, burns := x1, left := x2, steps := x3 } (0 : Int) (6 : Nat)) (Mem.ldW { n := n4, g := g4, h := h4, off := x0, burns := x1, left := x2, steps := x3 } (0 : Int) (7 : Nat)) (Mem.ldW { n := n4, g := g4, h := h4, off := x0, burns := x1, left := x2, steps := x3 } (1 : Int) (0 : Nat)) (Mem.ldW { n := n4, g := g4, h := h4, off := x0, burns := x1, left := x2, steps := x3 } (1 : Int) (1 : Nat)) (Mem.ldW { n := n4, g := g4, h := h4, off := x0, burns := x1, left := x2, steps := x3 } (1 : Int) (2 : Nat)) (Mem.ldW { n := n4, g := g4, h := h4, off := x0, burns := x1, left := x2, steps := x3 } (1 : Int) (3 : Nat)) (Mem.ldW { n := n4, g := g4, h := h4, off := x0, burns := x1, left := x2, steps := x3 } (1 : Int) (4 : Nat)) (Mem.ldW { n := n4, g := g4, h := h4, off := x0, burns := x1, left := x2, steps := x3 } (1 : Int) (5 : Nat)) (Mem.ldW { n := n4, g := g4, h := h4, off := x0, burns := x1, left := x2, steps := x3 } (1 : Int) (6 : Nat)) (Mem.ldW { n := n4, g := g4, h := h4, off := x0, burns := x1, left := x2, steps := x3 } (1 : Int) (7 : Nat))
noncomputable def sFind_c3 (x0 : Bool) (x1 : Bool) (x2 : Int) (x3 : Int) (n4 : Nat) (g4 : Nat → Nat → Int) (h4 : Nat → Nat → Int) : Int := r_sBest_3 (Mem.ldW { n := n4, g := g4, h := h4, off := x0, burns := x1, left := x2, steps := x3 } (0 : Int) (0 : Nat)) (Mem.ldW { n := n4, g := g4, h := h4, off := x0, burns := x1, left := x2, steps := x3 } (0 : Int) (1 : Nat)) (Mem.ldW { n := n4, g := g4, h := h4, off := x0, burns := x1, left := x2, steps := x3 } (0 : Int) (2 : Nat)) (Mem.ldW { n := n4, g := g4, h := h4, off := x0, burns := x1, left := x2, steps := x3 } (0 : Int) (3 : Nat)) (Mem.ldW { n := n4, g := g4, h := h4, off := x0, burns := x1, left := x2, steps := x3 } (0 : Int) (4 : Nat)) (Mem.ldW { n := n4, g := g4, h := h4, off := x0, burns := x1, left := x2, steps := x3 } (0 : Int) (5 : Nat)) (Mem.ldW { n := n4, g := g4, h := h4, off := x0, burns := x1, left := x2, steps := x3 } (0 : Int) (6 : Nat)) (Mem.ldW { n := n4, g := g4, h := h4, off := x0, burns := x1, left := x2, steps := x3 } (0 : Int) (7 : Nat)) (Mem.ldW { n := n4, g := g4, h := h4, off := x0, burns := x1, left := x2, steps := x3 } (1 : Int) (0 : Nat)) (Mem.ldW { n := n4, g := g4, h := h4, off := x0, burns := x1, left := x2, steps := x3 } (1 : Int) (1 : Nat)) (Mem.ldW { n := n4, g := g4, h := h4, off := x0, burns := x1, left := x2, steps := x3 } (1 : Int) (2 : Nat)) (Mem.ldW { n := n4, g := g4, h := h4, off := x0, burns := x1, left := x2, steps := x3 } (1 : Int) (3 : Nat)) (Mem.ldW { n := n4, g := g4, h := h4, off := x0, burns := x1, left := x2, steps := x3 } (1 : Int) (4 : Nat)) (Mem.ldW { n := n4, g := g4, h := h4, off := x0, burns := x1, left := x2, steps := x3 } (1 : Int) (5 : Nat)) (Mem.ldW { n := n4, g := g4, h := h4, off := x0, burns := x1, left := x2, steps := x3 } (1 : Int) (6 : Nat)) (Mem.ldW { n := n4, g := g4, h := h4, off := x0, burns := x1, left := x2, steps := x3 } (1 : Int) (7 : Nat))
noncomputable def sFind_c4 (x0 : Bool) (x1 : Bool) (x2 : Int) (x3 : Int) (n4 : Nat) (g4 : Nat → Nat → Int) (h4 : Nat → Nat → Int) : Int := r_sBest_4 (Mem.ldW { n := n4, g := g4, h := h4, off := x0, burns := x1, left := x2, steps := x3 } (0 : Int) (0 : Nat)) (Mem.ldW { n := n4, g := g4, h := h4, off := x0, burns := x1, left := x2, steps := x3 } (0 : Int) (1 : Nat)) (Mem.ldW { n := n4, g := g4, h := h4, off := x0, burns := x1, left := x2, steps := x3 } (0 : Int) (2 : Nat)) (Mem.ldW { n := n4, g := g4, h := h4, off := x0, burns := x1, left := x2, steps := x3 } (0 : Int) (3 : Nat)) (Mem.ldW { n := n4, g := g4, h := h4, off := x0, burns := x1, left := x2, steps := x3 } (0 : Int) (4 : Nat)) (Mem.ldW { n := n4, g := g4, h := h4, off := x0, burns := x1, left := x2, steps := x3 } (0 : Int) (5 : Nat)) (Mem.ldW { n := n4, g := g4, h := h4, off := x0, burns := x1, left := x2, steps := x3 } (0 : Int) (6 : Nat)) (Mem.ldW { n := n4, g := g4, h := h4, off := x0, burns := x1, left := x2, steps := x3 } (0 : Int) (7 : Nat)) (Mem.ldW { n := n4, g := g4, h := h4, off := x0, burns := x1, left := x2, steps := x3 } (1 : Int) (0 : Nat)) (Mem.ldW { n := n4, g := g4, h := h4, off := x0, burns := x1, left := x2, steps := x3 } (1 : Int) (1 : Nat)) (Mem.ldW { n := n4, g := g4, h := h4, off := x0, burns := x1, left := x2, steps := x3 } (1 : Int) (2 : Nat)) (Mem.ldW { n := n4, g := g4, h := h4, off := x0, burns := x1, left := x2, steps := x3 } (1 : Int) (3 : Nat)) (Mem.ldW { n := n4, g := g4, h := h4, off := x0, burns := x1, left := x2, steps := x3 } (1 : Int) (4 : Nat)) (Mem.ldW { n := n4, g := g4, h := h4, off := x0, burns := x1, left := x2, steps := x3 } (1 : Int) (5 : Nat)) (Mem.ldW { n := n4, g := g4, h := h4, off := x0, burns := x1, left := x2, steps := x3 } (1 : Int) (6 : Nat)) (Mem.ldW { n := n4, g := g4, h := h4, off := x0, burns := x1, left := x2, steps := x3 } (1 : Int) (7 : Nat))
noncomputable def sFind_c5 (x0 : Bool) (x1 : Bool) (x2 : Int) (x3 : Int) (n4 : Nat) (g4 : Nat → Nat → Int) (h4 : Nat → Nat → Int) : Bool := r_sBest_5 (Mem.ldW { n := n4, g := g4, h := h4, off := x0, burns := x1, left := x2, steps := x3 } (0 : Int) (0 : Nat)) (Mem.ldW { n := n4, g := g4, h := h4, off := x0, burns := x1, left := x2, steps := x3 } (0 : Int) (1 : Nat)) (Mem.ldW { n := n4, g := g4, h := h4, off := x0, burns := x1, left := x2, steps := x3 } (0 : Int) (2 : Nat)) (Mem.ldW { n := n4, g := g4, h := h4, off := x0, burns := x1, left := x2, steps := x3 } (0 : Int) (3 : Nat)) (Mem.ldW { n := n4, g := g4, h := h4, off := x0, burns := x1, left := x2, steps := x3 } (0 : Int) (4 : Nat)) (Mem.ldW { n := n4, g := g4, h := h4, off := x0, burns := x1, left := x2, steps := x3 } (0 : Int) (5 : Nat)) (Mem.ldW { n := n4, g := g4, h := h4, off := x0, burns := x1, left := x2, steps := x3 } (0 : Int) (6 : Nat)) (Mem.ldW { n := n4, g := g4, h := h4, off := x0, burns := x1, left := x2, steps := x3 } (0 : Int) (7 : Nat)) (Mem.ldW { n := n4, g := g4, h := h4, off := x0, burns := x1, left := x2, steps := x3 } (1 : Int) (0 : Nat)) (Mem.ldW { n := n4, g := g4, h := h4, off := x0, burns := x1, left := x2, steps := x3 } (1 : Int) (1 : Nat)) (Mem.ldW { n := n4, g := g4, h := h4, off := x0, burns := x1, left := x2, steps := x3 } (1 : Int) (2 : Nat)) (Mem.ldW { n := n4, g := g4, h := h4, off := x0, burns := x1, left := x2, steps := x3 } (1 : Int) (3 : Nat)) (Mem.ldW { n := n4, g := g4, h := h4, off := x0, burns := x1, left := x2, steps := x3 } (1 : Int) (4 : Nat)) (Mem.ldW { n := n4, g := g4, h := h4, off := x0, burns := x1, left := x2, steps := x3 } (1 : Int) (5 : Nat)) (Mem.ldW { n := n4, g := g4, h := h4, off := x0, burns := x1, left := x2, steps := x3 } (1 : Int) (6 : Nat)) (Mem.ldW { n := n4, g := g4, h := h4, off := x0, burns := x1, left := x2, steps := x3 } (1 : Int) (7 : Nat))
noncomputable def sFind_c6 (x0 : Bool) (x1 : Bool) (x2 : Int) (x3 : Int) (n4 : Nat) (g4 : Nat → Nat → Int) (h4 : Nat → Nat → Int) : Bool := !(sFind_c5 x0 x1 x2 x3 n4 g4 h4)
noncomputable def sFind_c7 (x0 : Bool) (x1 : Bool) (x2 : Int) (x3 : Int) (n4 : Nat) (g4 : Nat → Nat → Int) (h4 : Nat → Nat → Int) : Bool := ok_sBest (Mem.ldW { n := n4, g := g4, h := h4, off := x0, burns := x1, left := x2, steps := x3 } (0 : Int) (0 : Nat)) (Mem.ldW { n := n4, g := g4, h := h4, off := x0, burns := x1, left := x2, steps := x3 } (0 : Int) (1 : Nat)) (Mem.ldW { n := n4, g := g4, h := h4, off := x0, burns := x1, left := x2, steps := x3 } (0 : Int) (2 : Nat)) (Mem.ldW { n := n4, g := g4, h := h4, off := x0, burns := x1, left := x2, steps := x3 } (0 : Int) (3 : Nat)) (Mem.ldW { n := n4, g := g4, h := h4, off := x0, burns := x1, left := x2, steps := x3 } (0 : Int) (4 : Nat)) (Mem.ldW { n := n4, g := g4, h := h4, off := x0, burns := x1, left := x2, steps := x3 } (0 : Int) (5 : Nat)) (Mem.ldW { n := n4, g := g4, h := h4, off := x0, burns := x1, left := x2, steps := x3 } (0 : Int) (6 : Nat)) (Mem.ldW { n := n4, g := g4, h := h4, off := x0, burns := x1, left := x2, steps := x3 } (0 : Int) (7 : Nat)) (Mem.ldW { n := n4, g := g4, h := h4, off := x0, burns := x1, left := x2, steps := x3 } (1 : Int) (0 : Nat)) (Mem.ldW { n := n4, g := g4, h := h4, off := x0, burns := x1, left := x2, steps := x3 } (1 : Int) (1 : Nat)) (Mem.ldW { n := n4, g := g4, h := h4, off := x0, burns := x1, left := x2, steps := x3 } (1 : Int) (2 : Nat)) (Mem.ldW { n := n4, g := g4, h := h4, off := x0, burns := x1, left := x2, steps := x3 } (1 : Int) (3 : Nat)) (Mem.ldW { n := n4, g := g4, h := h4, off := x0, burns := x1, left := x2, steps := x3 } (1 : Int) (4 : Nat)) (Mem.ldW { n := n4, g := g4, h := h4, off := x0, burns := x1, left := x2, steps := x3 } (1 : Int) (5 : Nat)) (Mem.ldW { n := n4, g := g4, h := h4, off := x0, burns := x1, left := x2, steps := x3 } (1 : Int) (6 : Nat)) (Mem.ldW { n := n4, g := g4, h := h4, off := x0, burns := x1, left := x2, steps := x3 } (1 : Int) (7 : Nat))
noncomputable def T_sFind (x0 : Bool) (x1 : Bool) (x2 : Int) (x3 : Int) (n4 : Nat) (g4 : Nat → Nat → Int) (h4 : Nat → Nat → Int) : Tr (List At) :=
 .br 14 (Mem.ldC { n := n4, g := g4, h := h4, off := x0, burns := x1, left := x2, steps := x3 } (0 : Int) != (0 : Int))
 (.ok [(.i ((0 : Int))), (.i ((0 : Int))), (.i ((0 : Int))), (.i ((0 : Int))), (.i ((0 : Int))), (.i (Mem.ldC { n := n4, g := g4, h := h4, off := x0, burns := x1, left := x2, steps := x3 } (0 : Int)))])
 (.br 23 (Mem.ldC { n := n4, g := g4, h := h4, off := x0, burns := x1, left := x2, steps := x3 } (1 : Int) != (0 : Int))
 (.ok [(.i ((0 : Int))), (.i ((0 : Int))), (.i ((0 : Int))), (.i ((0 : Int))), (.i ((0 : Int))), (.i (Mem.ldC { n := n4, g := g4, h := h4, off := x0, burns := x1, left := x2, steps := x3 } (1 : Int)))])
 (.br 0 ((sFind_c7 x0 x1 x2 x3 n4 g4 h4))
 (.br 34 ((sFind_c6 x0 x1 x2 x3 n4 g4 h4))
 (.ok [(.i ((0 : Int))), (.i ((0 : Int))), (.i ((0 : Int))), (.i ((0 : Int))), (.i ((0 : Int))), (.i ((20 : Int)))])
 (.ok [(.i ((sFind_c0 x0 x1 x2 x3 n4 g4 h4))), (.i ((sFind_c1 x0 x1 x2 x3 n4 g4 h4))), (.i ((sFind_c2 x0 x1 x2 x3 n4 g4 h4))), (.i ((sFind_c3 x0 x1 x2 x3 n4 g4 h4))), (.i ((sFind_c4 x0 x1 x2 x3 n4 g4 h4))), (.i ((0 : Int)))]))
 (.no)))
noncomputable def y_sFind : Nat → Option Nat := (syOf3 [14, 23, 34] [] [])
noncomputable def TL_sFind (l : List At) : Tr (List At) := T_sFind (aB l 0) (aB l 1) (aI l 2) (aI l 3) (aRn l 4) (aRg l 4) (aMh l 4 16 2)
theorem e_sFind (l : List At) : (call Try.prog Γ_R1 y_sFind noLoops 100 Try.f23 (mkV ish_sFind l) (mkH ish_sFind l)).bind (leafO 3 osh_sFind) = TL_sFind l := by kernel_rfl
noncomputable def F_sFind : List At → Tr (List At) := TL_sFind
theorem s_sFind : SpecF Try.prog 23 (.read (locR ish_sFind osh_sFind F_sFind)) :=
  spec_read (sy := y_sFind) (fuel := 100) (Lp := noLoops) o_R1 mixed ⟨Try.func23, by kernel_rfl, by kernel_rfl⟩ ish_sFind osh_sFind (by kernel_rfl) (noLoops_ok _) (hT_ways e_sFind)
noncomputable def Γ_sFind : Specs := upd Γ_R1 23 (.read (locR ish_sFind osh_sFind F_sFind))
theorem o_sFind : SpecOK Try.prog Γ_sFind := SpecOK.upd o_R1 s_sFind

/-! ### the loop at 8 of sWrite -/

noncomputable def lsh_sWrite_8 : FSh := ⟨[.v false [.p 0 0], .v false [.k (.n .i64)], .v false [.k (.n .i64)], .any, .any, .any, .any, .any, .any, .any, .any, .any, .any, .any, .any, .any, .any, .any, .any, .any, .any, .any, .any, .any, .any, .any, .any, .any, .any, .any, .any, .any, .any, .any, .any, .any, .any, .v true [.k (.n .u64), .k (.n .u64), .k (.n .u64), .k (.n .u64), .k (.n .u64), .k (.n .u64), .k (.n .u64), .k (.n .u64)], .v false [.k (.n .i64)], .any, .any, .any, .any, .any, .any, .any, .any, .any, .any, .any, .any, .any, .any, .any, .any, .any, .any, .any, .any, .any, .any], [.cells [.sw 1 25, .k .b, .k .b, .k (.n .i64), .k (.n .i64)], .nrows [.n .u64, .n .u64, .n .u64, .n .u64, .n .u64, .n .u64, .n .u64, .n .u64, .n .u64, .n .u64, .n .u64, .n .u64, .n .u64, .n .u64, .n .u64, .n .u64, .n .i64, .n .i64, .n .i64, .n .i64, .n .i64, .n .i64, .n .i64, .n .i64, .n .i64] 16 [.n .i64, .n .u64] 3 false true, .no, .no]⟩
noncomputable def xsh_sWrite_8_0 : FSh := ⟨[.v false [.p 0 0], .v false [.k (.n .i64)], .v false [.k (.n .i64)], .any, .any, .any, .any, .any, .any, .any, .any, .any, .any, .any, .any, .any, .any, .any, .any, .any, .any, .any, .any, .any, .any, .any, .any, .any, .any, .any, .any, .any, .any, .any, .any, .any, .any, .any, .any, .any, .any, .any, .any, .any, .any, .any, .any, .any, .any, .any, .any, .any, .any, .any, .any, .any, .any, .any, .any, .any, .any], [.cells [.sw 1 25, .k .b, .k .b, .k (.n .i64), .k (.n .i64)], .nrows [.n .u64, .n .u64, .n .u64, .n .u64, .n .u64, .n .u64, .n .u64, .n .u64, .n .u64, .n .u64, .n .u64, .n .u64, .n .u64, .n .u64, .n .u64, .n .u64, .n .i64, .n .i64, .n .i64, .n .i64, .n .i64, .n .i64, .n .i64, .n .i64, .n .i64] 16 [.n .i64, .n .u64] 3 false true, .no, .no]⟩
noncomputable def xsh_sWrite_8_1 : FSh := ⟨[.any, .any, .any, .any, .any, .any, .any, .any, .v false [.k (.n .i64)], .any, .any, .any, .any, .any, .any, .any, .any, .any, .any, .any, .any, .any, .any, .any, .any, .any, .any, .any, .any, .any, .any, .any, .any, .any, .any, .any, .any, .any, .any, .any, .any, .any, .any, .any, .any, .any, .any, .any, .any, .any, .any, .any, .any, .any, .any, .any, .any, .any, .any, .any, .any], [.cells [.sw 1 25, .k .b, .k .b, .k (.n .i64), .k (.n .i64)], .nrows [.n .u64, .n .u64, .n .u64, .n .u64, .n .u64, .n .u64, .n .u64, .n .u64, .n .u64, .n .u64, .n .u64, .n .u64, .n .u64, .n .u64, .n .u64, .n .u64, .n .i64, .n .i64, .n .i64, .n .i64, .n .i64, .n .i64, .n .i64, .n .i64, .n .i64] 16 [.n .i64, .n .u64] 3 false true, .no, .no]⟩
noncomputable def xs_sWrite_8 : Exs := fun e => match e with
  | .normal => some lsh_sWrite_8
  | .exit n => (match Nat.beq n 0 with | true => some xsh_sWrite_8_0 | false => none)
  | .ret => some xsh_sWrite_8_1
noncomputable def B_sWrite_8 (x0 : Int) (x1 : Int) (x2 : Int) (x3 : Int) (x4 : Int) (x5 : Int) (x6 : Int) (x7 : Int) (x8 : Int) (x9 : Int) (x10 : Int) (x11 : Bool) (x12 : Bool) (x13 : Int) (x14 : Int) (n15 : Nat) (g15 : Nat → Nat → Int) (h15 : Nat → Nat → Int) : Tr (Ex × List At) :=
 .br 39 (Decidable.decide (x10 < (8 : Int)))
 (.br 200041 (Go.AM.within x10 (8 : Nat))
 (.br 0 (pdec (Mem.Ok (900000 : Int) { n := n15, g := g15, h := h15, off := x11, burns := x12, left := x13, steps := x14 }))
 (.br 48 (Mem.stC { n := n15, g := g15, h := h15, off := x11, burns := x12, left := x13, steps := x14 } x1 x10 != (0 : Int))
 (.ok (.ret, [(.i (Mem.stC { n := n15, g := g15, h := h15, off := x11, burns := x12, left := x13, steps := x14 } x1 x10)), (.b ((Mem.stM { n := n15, g := g15, h := h15, off := x11, burns := x12, left := x13, steps := x14 } x1 x10 (List.getD [x2, x3, x4, x5, x6, x7, x8, x9] (Int.toNat x10) (0 : Int))).off)), (.b ((Mem.stM { n := n15, g := g15, h := h15, off := x11, burns := x12, left := x13, steps := x14 } x1 x10 (List.getD [x2, x3, x4, x5, x6, x7, x8, x9] (Int.toNat x10) (0 : Int))).burns)), (.i ((Mem.stM { n := n15, g := g15, h := h15, off := x11, burns := x12, left := x13, steps := x14 } x1 x10 (List.getD [x2, x3, x4, x5, x6, x7, x8, x9] (Int.toNat x10) (0 : Int))).left)), (.i ((Mem.stM { n := n15, g := g15, h := h15, off := x11, burns := x12, left := x13, steps := x14 } x1 x10 (List.getD [x2, x3, x4, x5, x6, x7, x8, x9] (Int.toNat x10) (0 : Int))).steps)), (.q ((Mem.stM { n := n15, g := g15, h := h15, off := x11, burns := x12, left := x13, steps := x14 } x1 x10 (List.getD [x2, x3, x4, x5, x6, x7, x8, x9] (Int.toNat x10) (0 : Int))).n) ((Mem.stM { n := n15, g := g15, h := h15, off := x11, burns := x12, left := x13, steps := x14 } x1 x10 (List.getD [x2, x3, x4, x5, x6, x7, x8, x9] (Int.toNat x10) (0 : Int))).g) ((16 : Nat)) ((2 : Nat)) ((Mem.stM { n := n15, g := g15, h := h15, off := x11, burns := x12, left := x13, steps := x14 } x1 x10 (List.getD [x2, x3, x4, x5, x6, x7, x8, x9] (Int.toNat x10) (0 : Int))).h))]))
 (.ok (.normal, [(.i (x0)), (.i (x1)), (.i (x2)), (.i (x3)), (.i (x4)), (.i (x5)), (.i (x6)), (.i (x7)), (.i (x8)), (.i (x9)), (.i (Go.IntKind.wrap Go.IntKind.i64 (x10 + (1 : Int)))), (.b ((Mem.stM { n := n15, g := g15, h := h15, off := x11, burns := x12, left := x13, steps := x14 } x1 x10 (List.getD [x2, x3, x4, x5, x6, x7, x8, x9] (Int.toNat x10) (0 : Int))).off)), (.b ((Mem.stM { n := n15, g := g15, h := h15, off := x11, burns := x12, left := x13, steps := x14 } x1 x10 (List.getD [x2, x3, x4, x5, x6, x7, x8, x9] (Int.toNat x10) (0 : Int))).burns)), (.i ((Mem.stM { n := n15, g := g15, h := h15, off := x11, burns := x12, left := x13, steps := x14 } x1 x10 (List.getD [x2, x3, x4, x5, x6, x7, x8, x9] (Int.toNat x10) (0 : Int))).left)), (.i ((Mem.stM { n := n15, g := g15, h := h15, off := x11, burns := x12, left := x13, steps := x14 } x1 x10 (List.getD [x2, x3, x4, x5, x6, x7, x8, x9] (Int.toNat x10) (0 : Int))).steps)), (.q ((Mem.stM { n := n15, g := g15, h := h15, off := x11, burns := x12, left := x13, steps := x14 } x1 x10 (List.getD [x2, x3, x4, x5, x6, x7, x8, x9] (Int.toNat x10) (0 : Int))).n) ((Mem.stM { n := n15, g := g15, h := h15, off := x11, burns := x12, left := x13, steps := x14 } x1 x10 (List.getD [x2, x3, x4, x5, x6, x7, x8, x9] (Int.toNat x10) (0 : Int))).g) ((16 : Nat)) ((2 : Nat)) ((Mem.stM { n := n15, g := g15, h := h15, off := x11, burns := x12, left := x13, steps := x14 } x1 x10 (List.getD [x2, x3, x4, x5, x6, x7, x8, x9] (Int.toNat x10) (0 : Int))).h))])))
 (.no))
 (.no))
 (.ok (.exit 0, [(.i (x0)), (.i (x1)), (.b (x11)), (.b (x12)), (.i (x13)), (.i (x14)), (.q (n15) (g15) ((16 : Nat)) ((2 : Nat)) (h15))]))
noncomputable def y_sWrite_8 : Nat → Option Nat := (syOf3 [39, 48] [] [41])
noncomputable def BL_sWrite_8 (l : List At) : Tr (Ex × List At) := B_sWrite_8 (aI l 0) (aI l 1) (aI l 2) (aI l 3) (aI l 4) (aI l 5) (aI l 6) (aI l 7) (aI l 8) (aI l 9) (aI l 10) (aB l 11) (aB l 12) (aI l 13) (aI l 14) (aRn l 15) (aRg l 15) (aMh l 15 16 2)
theorem eB_sWrite_8 (l : List At) : (exec Try.prog Γ_sFind y_sWrite_8 noLoops 100 (loopAt Try.f22 8) ⟨mkV lsh_sWrite_8 l, mkH lsh_sWrite_8 l⟩).bind (leafL 3 xs_sWrite_8) = BL_sWrite_8 l := by kernel_rfl
/- by hand: O_sWrite_8 (x0 : Int) (x1 : Int) (x2 : Int) (x3 : Int) (x4 : Int) (x5 : Int) (x6 : Int) (x7 : Int) (x8 : Int) (x9 : Int) (x10 : Int) (x11 : Bool) (x12 : Bool) (x13 : Int) (x14 : Int) (n15 : Nat) (g15 : Nat → Nat → Int) (h15 : Nat → Nat → Int) : Tr (Ex × List At); OL_sWrite_8 (l) := O_sWrite_8 (aI l 0) (aI l 1) (aI l 2) (aI l 3) (aI l 4) (aI l 5) (aI l 6) (aI l 7) (aI l 8) (aI l 9) (aI l 10) (aB l 11) (aB l 12) (aI l 13) (aI l 14) (aRn l 15) (aRg l 15) (aMh l 15 16 2); μ_sWrite_8 : List At → Nat; rd_sWrite_8 : ∀ l r, (OL_sWrite_8 l).val = some r → RoundA BL_sWrite_8 OL_sWrite_8 μ_sWrite_8 l r -/

end Go.Proofs.Ytgmhggipaopoiaa.G
end

/-
  The loop of Write: a line's words, one behind the other.
-/
section
namespace Go.Proofs.Ytgmhggipaopoiaa.G
open Go Go.AM Go.Proofs

def stL (w : Nat → Int) (s : Int) : (k i : Nat) → Mem → Mem × Int
  | 0, _, M => (M, 0)
  | k + 1, i, M => if M.stC s (i : Int) = 0 then stL w s k (i + 1) (M.stM s (i : Int) (w i)) else (M.stM s (i : Int) (w i), M.stC s (i : Int))

def T_stL (x0 x1 : Int) (p : Mem × Int) : Tr (Ex × List At) := .br 0 (p.2 != 0) (.ok (.ret, .i p.2 :: p.1.ats)) (.ok (.exit 0, .i x0 :: .i x1 :: p.1.ats))

def preW (x10 : Int) (m : Mem) : Prop := 0 ≤ x10 ∧ x10 ≤ 8 ∧ m.Ok (890000 + x10)

noncomputable def O_sWrite_8 (x0 x1 x10 : Int) (w : Nat → Int) (m : Mem) : Tr (Ex × List At) :=
  .br 0 (pdec (preW x10 m)) (T_stL x0 x1 (stL w x1 (8 - x10.toNat) x10.toNat m)) .no
noncomputable def OL_sWrite_8 (l : List At) : Tr (Ex × List At) := O_sWrite_8 (aI l 0) (aI l 1) (aI l 10) (fun i => [aI l 2, aI l 3, aI l 4, aI l 5, aI l 6, aI l 7, aI l 8, aI l 9].getD i 0) ⟨aRn l 15, aRg l 15, aMh l 15 16 2, aB l 11, aB l 12, aI l 13, aI l 14⟩
def μ_sWrite_8 (l : List At) : Nat := (8 - aI l 10).toNat

theorem rd_sWrite_8 : ∀ l r, (OL_sWrite_8 l).val = some r → RoundS BL_sWrite_8 OL_sWrite_8 μ_sWrite_8 l r := by
  intro l r hh
  unfold OL_sWrite_8 at hh
  obtain ⟨hc, h⟩ := guard_val hh
  clear hh
  obtain ⟨c0, c1, c2⟩ := of_pdec hc
  unfold RoundS BL_sWrite_8 B_sWrite_8
  generalize hx0 : aI l 0 = x0 at *
  generalize hx1 : aI l 1 = x1 at *
  generalize hx10 : aI l 10 = x10 at *
  refine brD (fun h1 => ?_) (fun h1 => ?_)
  · obtain ⟨i, rfl⟩ := Int.eq_ofNat_of_zero_le c0
    rw [Int.toNat_natCast] at h ⊢
    have hw : IntKind.i64.wrap ((i : Int) + 1) = (i : Int) + 1 := wrap_i64 (by omega) (by omega)
    have hμ : (8 - ((i : Int) + 1)).toNat < μ_sWrite_8 l := by unfold μ_sWrite_8; rw [hx10]; omega
    have e1 : 8 - i = (8 - ((i : Int) + 1).toNat) + 1 := by omega
    rw [e1, stL] at h
    rw [hw]
    refine brW (fun _ => brT (pdec_yes (c2.mono (by omega))) (brNE (fun hne => ?_) (fun he => ?_))) (fun hh => by exfalso; omega)
    · rw [if_neg hne] at h
      have hv := val_ok ((br_t (g := 0) (show (_ != (0 : Int)) = true by simpa using hne)).symm.trans h)
      subst hv
      exact out_ (by simp) rfl (AtsEq.refl _)
    · rw [if_pos he] at h
      have hq : preW ((i : Int) + 1) _ := ⟨by omega, by omega, (stM_ok (i := x1) (w := (i : Int)) (v := [aI l 2, aI l 3, aI l 4, aI l 5, aI l 6, aI l 7, aI l 8, aI l 9].getD i 0) c2 (by omega)).mono (by omega)⟩
      exact on_ _ r (AtsEq.refl _) hμ ((br_t (g := 0) (pdec_yes hq)).trans h) rfl (AtsEq.refl _)
  · have e : 8 - x10.toNat = 0 := by omega
    rw [e, stL] at h
    have hv := val_ok h
    subst hv
    exact out_ (by simp) rfl (AtsEq.refl _)
end Go.Proofs.Ytgmhggipaopoiaa.G
end

/-
  What functions of the seat compute, printed by a program from the explorer.
-/
section
namespace Go.Proofs.Ytgmhggipaopoiaa.G
open Go Go.AM Go.Proofs
theorem f_sWrite_8 : LoopF Try.prog 3 (loopAt Try.f22 8) (loopFn 3 lsh_sWrite_8 xs_sWrite_8 OL_sWrite_8) :=
  loop_sat (sy := y_sWrite_8) (fuel := 100) (Lp := noLoops) o_sFind mixed (loopsOK_at (noLoops_ok _) 8) rfl eB_sWrite_8 rd_sWrite_8
noncomputable def Lp_sWrite_8 : Loops := Loops.set noLoops 8 (loopFn 3 lsh_sWrite_8 xs_sWrite_8 OL_sWrite_8)
theorem lk_sWrite_8 : LoopsFn Try.prog 3 Lp_sWrite_8 Try.f22 := loopsFn_set (noLoops_ok _) (by kernel_rfl) f_sWrite_8

/-! ### sWrite -/

noncomputable def ish_sWrite : FSh := ⟨[.v false [.p 0 0], .v false [.k (.n .i64)], .v false [.k (.n .i64)], .v true [.k (.n .i64), .k (.n .i64), .k (.n .i64), .k (.n .i64)]], [.cells [.sw 1 25, .k .b, .k .b, .k (.n .i64), .k (.n .i64)], .nrows [.n .u64, .n .u64, .n .u64, .n .u64, .n .u64, .n .u64, .n .u64, .n .u64, .n .u64, .n .u64, .n .u64, .n .u64, .n .u64, .n .u64, .n .u64, .n .u64, .n .i64, .n .i64, .n .i64, .n .i64, .n .i64, .n .i64, .n .i64, .n .i64, .n .i64] 16 [.n .i64, .n .u64] 2 false true, .no]⟩
noncomputable def osh_sWrite : FSh := ⟨[.v false [.k (.n .i64)]], [.cells [.sw 1 25, .k .b, .k .b, .k (.n .i64), .k (.n .i64)], .nrows [.n .u64, .n .u64, .n .u64, .n .u64, .n .u64, .n .u64, .n .u64, .n .u64, .n .u64, .n .u64, .n .u64, .n .u64, .n .u64, .n .u64, .n .u64, .n .u64, .n .i64, .n .i64, .n .i64, .n .i64, .n .i64, .n .i64, .n .i64, .n .i64, .n .i64] 16 [.n .i64, .n .u64] 3 false true, .no, .no]⟩
noncomputable def T_sWrite_s0 (x0 : Int) (x1 : Int) (x2 : Int) (x3 : Int) (x4 : Int) (x5 : Int) (x6 : Bool) (x7 : Bool) (x8 : Int) (x9 : Int) (n10 : Nat) (g10 : Nat → Nat → Int) (h10 : Nat → Nat → Int) : Tr (List At) :=
 .br 35 (Mem.stC { n := n10, g := g10, h := h10, off := x6, burns := x7, left := x8, steps := x9 } x1 (7 : Int) != (0 : Int))
 (.ok [(.i (Mem.stC { n := n10, g := g10, h := h10, off := x6, burns := x7, left := x8, steps := x9 } x1 (7 : Int))), (.b ((Mem.stM { n := n10, g := g10, h := h10, off := x6, burns := x7, left := x8, steps := x9 } x1 (7 : Int) (0 : Int)).off)), (.b ((Mem.stM { n := n10, g := g10, h := h10, off := x6, burns := x7, left := x8, steps := x9 } x1 (7 : Int) (0 : Int)).burns)), (.i ((Mem.stM { n := n10, g := g10, h := h10, off := x6, burns := x7, left := x8, steps := x9 } x1 (7 : Int) (0 : Int)).left)), (.i ((Mem.stM { n := n10, g := g10, h := h10, off := x6, burns := x7, left := x8, steps := x9 } x1 (7 : Int) (0 : Int)).steps)), (.q ((Mem.stM { n := n10, g := g10, h := h10, off := x6, burns := x7, left := x8, steps := x9 } x1 (7 : Int) (0 : Int)).n) ((Mem.stM { n := n10, g := g10, h := h10, off := x6, burns := x7, left := x8, steps := x9 } x1 (7 : Int) (0 : Int)).g) ((16 : Nat)) ((2 : Nat)) ((Mem.stM { n := n10, g := g10, h := h10, off := x6, burns := x7, left := x8, steps := x9 } x1 (7 : Int) (0 : Int)).h))])
 (.br 0 (pdec (preW (0 : Int) (Mem.stM { n := n10, g := g10, h := h10, off := x6, burns := x7, left := x8, steps := x9 } x1 (7 : Int) (0 : Int))))
 (.br 0 ((stL (fun (i : Nat) => List.getD [r_sLine_0 x2 x3 x4 x5, r_sLine_1 x2 x3 x4 x5, r_sLine_2 x2 x3 x4 x5, r_sLine_3 x2 x3 x4 x5, r_sLine_4 x2 x3 x4 x5, r_sLine_5 x2 x3 x4 x5, r_sLine_6 x2 x3 x4 x5, r_sLine_7 x2 x3 x4 x5] i (0 : Int)) x1 (8 : Nat) (0 : Nat) (Mem.stM { n := n10, g := g10, h := h10, off := x6, burns := x7, left := x8, steps := x9 } x1 (7 : Int) (0 : Int))).snd != (0 : Int))
 (.ok [(.i ((stL (fun (i : Nat) => List.getD [r_sLine_0 x2 x3 x4 x5, r_sLine_1 x2 x3 x4 x5, r_sLine_2 x2 x3 x4 x5, r_sLine_3 x2 x3 x4 x5, r_sLine_4 x2 x3 x4 x5, r_sLine_5 x2 x3 x4 x5, r_sLine_6 x2 x3 x4 x5, r_sLine_7 x2 x3 x4 x5] i (0 : Int)) x1 (8 : Nat) (0 : Nat) (Mem.stM { n := n10, g := g10, h := h10, off := x6, burns := x7, left := x8, steps := x9 } x1 (7 : Int) (0 : Int))).snd)), (.b ((stL (fun (i : Nat) => List.getD [r_sLine_0 x2 x3 x4 x5, r_sLine_1 x2 x3 x4 x5, r_sLine_2 x2 x3 x4 x5, r_sLine_3 x2 x3 x4 x5, r_sLine_4 x2 x3 x4 x5, r_sLine_5 x2 x3 x4 x5, r_sLine_6 x2 x3 x4 x5, r_sLine_7 x2 x3 x4 x5] i (0 : Int)) x1 (8 : Nat) (0 : Nat) (Mem.stM { n := n10, g := g10, h := h10, off := x6, burns := x7, left := x8, steps := x9 } x1 (7 : Int) (0 : Int))).fst.off)), (.b ((stL (fun (i : Nat) => List.getD [r_sLine_0 x2 x3 x4 x5, r_sLine_1 x2 x3 x4 x5, r_sLine_2 x2 x3 x4 x5, r_sLine_3 x2 x3 x4 x5, r_sLine_4 x2 x3 x4 x5, r_sLine_5 x2 x3 x4 x5, r_sLine_6 x2 x3 x4 x5, r_sLine_7 x2 x3 x4 x5] i (0 : Int)) x1 (8 : Nat) (0 : Nat) (Mem.stM { n := n10, g := g10, h := h10, off := x6, burns := x7, left := x8, steps := x9 } x1 (7 : Int) (0 : Int))).fst.burns)), (.i ((stL (fun (i : Nat) => List.getD [r_sLine_0 x2 x3 x4 x5, r_sLine_1 x2 x3 x4 x5, r_sLine_2 x2 x3 x4 x5, r_sLine_3 x2 x3 x4 x5, r_sLine_4 x2 x3 x4 x5, r_sLine_5 x2 x3 x4 x5, r_sLine_6 x2 x3 x4 x5, r_sLine_7 x2 x3 x4 x5] i (0 : Int)) x1 (8 : Nat) (0 : Nat) (Mem.stM { n := n10, g := g10, h := h10, off := x6, burns := x7, left := x8, steps := x9 } x1 (7 : Int) (0 : Int))).fst.left)), (.i ((stL (fun (i : Nat) => List.getD [r_sLine_0 x2 x3 x4 x5, r_sLine_1 x2 x3 x4 x5, r_sLine_2 x2 x3 x4 x5, r_sLine_3 x2 x3 x4 x5, r_sLine_4 x2 x3 x4 x5, r_sLine_5 x2 x3 x4 x5, r_sLine_6 x2 x3 x4 x5, r_sLine_7 x2 x3 x4 x5] i (0 : Int)) x1 (8 : Nat) (0 : Nat) (Mem.stM { n := n10, g := g10, h := h10, off := x6, burns := x7, left := x8, steps := x9 } x1 (7 : Int) (0 : Int))).fst.steps)), (.q ((stL (fun (i : Nat) => List.getD [r_sLine_0 x2 x3 x4 x5, r_sLine_1 x2 x3 x4 x5, r_sLine_2 x2 x3 x4 x5, r_sLine_3 x2 x3 x4 x5, r_sLine_4 x2 x3 x4 x5, r_sLine_5 x2 x3 x4 x5, r_sLine_6 x2 x3 x4 x5, r_sLine_7 x2 x3 x4 x5] i (0 : Int)) x1 (8 : Nat) (0 : Nat) (Mem.stM { n := n10, g := g10, h := h10, off := x6, burns := x7, left := x8, steps := x9 } x1 (7 : Int) (0 : Int))).fst.n) ((stL (fun (i : Nat) => List.getD [r_sLine_0 x2 x3 x4 x5, r_sLine_1 x2 x3 x4 x5, r_sLine_2 x2 x3 x4 x5, r_sLine_3 x2 x3 x4 x5, r_sLine_4 x2 x3 x4 x5, r_sLine_5 x2 x3 x4 x5, r_sLine_6 x2 x3 x4 x5, r_sLine_7 x2 x3 x4 x5] i (0 : Int)) x1 (8 : Nat) (0 : Nat) (Mem.stM { n := n10, g := g10, h := h10, off := x6, burns := x7, left := x8, steps := x9 } x1 (7 : Int) (0 : Int))).fst.g) ((16 : Nat)) ((2 : Nat)) ((stL (fun (i : Nat) => List.getD [r_sLine_0 x2 x3 x4 x5, r_sLine_1 x2 x3 x4 x5, r_sLine_2 x2 x3 x4 x5, r_sLine_3 x2 x3 x4 x5, r_sLine_4 x2 x3 x4 x5, r_sLine_5 x2 x3 x4 x5, r_sLine_6 x2 x3 x4 x5, r_sLine_7 x2 x3 x4 x5] i (0 : Int)) x1 (8 : Nat) (0 : Nat) (Mem.stM { n := n10, g := g10, h := h10, off := x6, burns := x7, left := x8, steps := x9 } x1 (7 : Int) (0 : Int))).fst.h))])
 (.br 0 (pdec (Mem.Ok (900000 : Int) (stL (fun (i : Nat) => List.getD [r_sLine_0 x2 x3 x4 x5, r_sLine_1 x2 x3 x4 x5, r_sLine_2 x2 x3 x4 x5, r_sLine_3 x2 x3 x4 x5, r_sLine_4 x2 x3 x4 x5, r_sLine_5 x2 x3 x4 x5, r_sLine_6 x2 x3 x4 x5, r_sLine_7 x2 x3 x4 x5] i (0 : Int)) x1 (8 : Nat) (0 : Nat) (Mem.stM { n := n10, g := g10, h := h10, off := x6, burns := x7, left := x8, steps := x9 } x1 (7 : Int) (0 : Int))).fst))
 (.br 56 (Mem.stC (stL (fun (i : Nat) => List.getD [r_sLine_0 x2 x3 x4 x5, r_sLine_1 x2 x3 x4 x5, r_sLine_2 x2 x3 x4 x5, r_sLine_3 x2 x3 x4 x5, r_sLine_4 x2 x3 x4 x5, r_sLine_5 x2 x3 x4 x5, r_sLine_6 x2 x3 x4 x5, r_sLine_7 x2 x3 x4 x5] i (0 : Int)) x1 (8 : Nat) (0 : Nat) (Mem.stM { n := n10, g := g10, h := h10, off := x6, burns := x7, left := x8, steps := x9 } x1 (7 : Int) (0 : Int))).fst x1 x0 != (0 : Int))
 (.ok [(.i (Mem.stC (stL (fun (i : Nat) => List.getD [r_sLine_0 x2 x3 x4 x5, r_sLine_1 x2 x3 x4 x5, r_sLine_2 x2 x3 x4 x5, r_sLine_3 x2 x3 x4 x5, r_sLine_4 x2 x3 x4 x5, r_sLine_5 x2 x3 x4 x5, r_sLine_6 x2 x3 x4 x5, r_sLine_7 x2 x3 x4 x5] i (0 : Int)) x1 (8 : Nat) (0 : Nat) (Mem.stM { n := n10, g := g10, h := h10, off := x6, burns := x7, left := x8, steps := x9 } x1 (7 : Int) (0 : Int))).fst x1 x0)), (.b ((Mem.flM (stL (fun (i : Nat) => List.getD [r_sLine_0 x2 x3 x4 x5, r_sLine_1 x2 x3 x4 x5, r_sLine_2 x2 x3 x4 x5, r_sLine_3 x2 x3 x4 x5, r_sLine_4 x2 x3 x4 x5, r_sLine_5 x2 x3 x4 x5, r_sLine_6 x2 x3 x4 x5, r_sLine_7 x2 x3 x4 x5] i (0 : Int)) x1 (8 : Nat) (0 : Nat) (Mem.stM { n := n10, g := g10, h := h10, off := x6, burns := x7, left := x8, steps := x9 } x1 (7 : Int) (0 : Int))).fst x0 x1).off)), (.b ((Mem.flM (stL (fun (i : Nat) => List.getD [r_sLine_0 x2 x3 x4 x5, r_sLine_1 x2 x3 x4 x5, r_sLine_2 x2 x3 x4 x5, r_sLine_3 x2 x3 x4 x5, r_sLine_4 x2 x3 x4 x5, r_sLine_5 x2 x3 x4 x5, r_sLine_6 x2 x3 x4 x5, r_sLine_7 x2 x3 x4 x5] i (0 : Int)) x1 (8 : Nat) (0 : Nat) (Mem.stM { n := n10, g := g10, h := h10, off := x6, burns := x7, left := x8, steps := x9 } x1 (7 : Int) (0 : Int))).fst x0 x1).burns)), (.i ((Mem.flM (stL (fun (i : Nat) => List.getD [r_sLine_0 x2 x3 x4 x5, r_sLine_1 x2 x3 x4 x5, r_sLine_2 x2 x3 x4 x5, r_sLine_3 x2 x3 x4 x5, r_sLine_4 x2 x3 x4 x5, r_sLine_5 x2 x3 x4 x5, r_sLine_6 x2 x3 x4 x5, r_sLine_7 x2 x3 x4 x5] i (0 : Int)) x1 (8 : Nat) (0 : Nat) (Mem.stM { n := n10, g := g10, h := h10, off := x6, burns := x7, left := x8, steps := x9 } x1 (7 : Int) (0 : Int))).fst x0 x1).left)), (.i ((Mem.flM (stL (fun (i : Nat) => List.getD [r_sLine_0 x2 x3 x4 x5, r_sLine_1 x2 x3 x4 x5, r_sLine_2 x2 x3 x4 x5, r_sLine_3 x2 x3 x4 x5, r_sLine_4 x2 x3 x4 x5, r_sLine_5 x2 x3 x4 x5, r_sLine_6 x2 x3 x4 x5, r_sLine_7 x2 x3 x4 x5] i (0 : Int)) x1 (8 : Nat) (0 : Nat) (Mem.stM { n := n10, g := g10, h := h10, off := x6, burns := x7, left := x8, steps := x9 } x1 (7 : Int) (0 : Int))).fst x0 x1).steps)), (.q ((Mem.flM (stL (fun (i : Nat) => List.getD [r_sLine_0 x2 x3 x4 x5, r_sLine_1 x2 x3 x4 x5, r_sLine_2 x2 x3 x4 x5, r_sLine_3 x2 x3 x4 x5, r_sLine_4 x2 x3 x4 x5, r_sLine_5 x2 x3 x4 x5, r_sLine_6 x2 x3 x4 x5, r_sLine_7 x2 x3 x4 x5] i (0 : Int)) x1 (8 : Nat) (0 : Nat) (Mem.stM { n := n10, g := g10, h := h10, off := x6, burns := x7, left := x8, steps := x9 } x1 (7 : Int) (0 : Int))).fst x0 x1).n) ((Mem.flM (stL (fun (i : Nat) => List.getD [r_sLine_0 x2 x3 x4 x5, r_sLine_1 x2 x3 x4 x5, r_sLine_2 x2 x3 x4 x5, r_sLine_3 x2 x3 x4 x5, r_sLine_4 x2 x3 x4 x5, r_sLine_5 x2 x3 x4 x5, r_sLine_6 x2 x3 x4 x5, r_sLine_7 x2 x3 x4 x5] i (0 : Int)) x1 (8 : Nat) (0 : Nat) (Mem.stM { n := n10, g := g10, h := h10, off := x6, burns := x7, left := x8, steps := x9 } x1 (7 : Int) (0 : Int))).fst x0 x1).g) ((16 : Nat)) ((2 : Nat)) ((Mem.flM (stL (fun (i : Nat) => List.getD [r_sLine_0 x2 x3 x4 x5, r_sLine_1 x2 x3 x4 x5, r_sLine_2 x2 x3 x4 x5, r_sLine_3 x2 x3 x4 x5, r_sLine_4 x2 x3 x4 x5, r_sLine_5 x2 x3 x4 x5, r_sLine_6 x2 x3 x4 x5, r_sLine_7 x2 x3 x4 x5] i (0 : Int)) x1 (8 : Nat) (0 : Nat) (Mem.stM { n := n10, g := g10, h := h10, off := x6, burns := x7, left := x8, steps := x9 } x1 (7 : Int) (0 : Int))).fst x0 x1).h))])
 (.br 0 (pdec (Mem.Ok (900000 : Int) (Mem.flM (stL (fun (i : Nat) => List.getD [r_sLine_0 x2 x3 x4 x5, r_sLine_1 x2 x3 x4 x5, r_sLine_2 x2 x3 x4 x5, r_sLine_3 x2 x3 x4 x5, r_sLine_4 x2 x3 x4 x5, r_sLine_5 x2 x3 x4 x5, r_sLine_6 x2 x3 x4 x5, r_sLine_7 x2 x3 x4 x5] i (0 : Int)) x1 (8 : Nat) (0 : Nat) (Mem.stM { n := n10, g := g10, h := h10, off := x6, burns := x7, left := x8, steps := x9 } x1 (7 : Int) (0 : Int))).fst x0 x1)))
 (.ok [(.i (Mem.feC (Mem.flM (stL (fun (i : Nat) => List.getD [r_sLine_0 x2 x3 x4 x5, r_sLine_1 x2 x3 x4 x5, r_sLine_2 x2 x3 x4 x5, r_sLine_3 x2 x3 x4 x5, r_sLine_4 x2 x3 x4 x5, r_sLine_5 x2 x3 x4 x5, r_sLine_6 x2 x3 x4 x5, r_sLine_7 x2 x3 x4 x5] i (0 : Int)) x1 (8 : Nat) (0 : Nat) (Mem.stM { n := n10, g := g10, h := h10, off := x6, burns := x7, left := x8, steps := x9 } x1 (7 : Int) (0 : Int))).fst x0 x1) x0)), (.b ((Mem.feM (Mem.flM (stL (fun (i : Nat) => List.getD [r_sLine_0 x2 x3 x4 x5, r_sLine_1 x2 x3 x4 x5, r_sLine_2 x2 x3 x4 x5, r_sLine_3 x2 x3 x4 x5, r_sLine_4 x2 x3 x4 x5, r_sLine_5 x2 x3 x4 x5, r_sLine_6 x2 x3 x4 x5, r_sLine_7 x2 x3 x4 x5] i (0 : Int)) x1 (8 : Nat) (0 : Nat) (Mem.stM { n := n10, g := g10, h := h10, off := x6, burns := x7, left := x8, steps := x9 } x1 (7 : Int) (0 : Int))).fst x0 x1) x0).off)), (.b ((Mem.feM (Mem.flM (stL (fun (i : Nat) => List.getD [r_sLine_0 x2 x3 x4 x5, r_sLine_1 x2 x3 x4 x5, r_sLine_2 x2 x3 x4 x5, r_sLine_3 x2 x3 x4 x5, r_sLine_4 x2 x3 x4 x5, r_sLine_5 x2 x3 x4 x5, r_sLine_6 x2 x3 x4 x5, r_sLine_7 x2 x3 x4 x5] i (0 : Int)) x1 (8 : Nat) (0 : Nat) (Mem.stM { n := n10, g := g10, h := h10, off := x6, burns := x7, left := x8, steps := x9 } x1 (7 : Int) (0 : Int))).fst x0 x1) x0).burns)), (.i ((Mem.feM (Mem.flM (stL (fun (i : Nat) => List.getD [r_sLine_0 x2 x3 x4 x5, r_sLine_1 x2 x3 x4 x5, r_sLine_2 x2 x3 x4 x5, r_sLine_3 x2 x3 x4 x5, r_sLine_4 x2 x3 x4 x5, r_sLine_5 x2 x3 x4 x5, r_sLine_6 x2 x3 x4 x5, r_sLine_7 x2 x3 x4 x5] i (0 : Int)) x1 (8 : Nat) (0 : Nat) (Mem.stM { n := n10, g := g10, h := h10, off := x6, burns := x7, left := x8, steps := x9 } x1 (7 : Int) (0 : Int))).fst x0 x1) x0).left)), (.i ((Mem.feM (Mem.flM (stL (fun (i : Nat) => List.getD [r_sLine_0 x2 x3 x4 x5, r_sLine_1 x2 x3 x4 x5, r_sLine_2 x2 x3 x4 x5, r_sLine_3 x2 x3 x4 x5, r_sLine_4 x2 x3 x4 x5, r_sLine_5 x2 x3 x4 x5, r_sLine_6 x2 x3 x4 x5, r_sLine_7 x2 x3 x4 x5] i (0 : Int)) x1 (8 : Nat) (0 : Nat) (Mem.stM { n := n10, g := g10, h := h10, off := x6, burns := x7, left := x8, steps := x9 } x1 (7 : Int) (0 : Int))).fst x0 x1) x0).steps)), (.q ((Mem.feM (Mem.flM (stL (fun (i : Nat) => List.getD [r_sLine_0 x2 x3 x4 x5, r_sLine_1 x2 x3 x4 x5, r_sLine_2 x2 x3 x4 x5, r_sLine_3 x2 x3 x4 x5, r_sLine_4 x2 x3 x4 x5, r_sLine_5 x2 x3 x4 x5, r_sLine_6 x2 x3 x4 x5, r_sLine_7 x2 x3 x4 x5] i (0 : Int)) x1 (8 : Nat) (0 : Nat) (Mem.stM { n := n10, g := g10, h := h10, off := x6, burns := x7, left := x8, steps := x9 } x1 (7 : Int) (0 : Int))).fst x0 x1) x0).n) ((Mem.feM (Mem.flM (stL (fun (i : Nat) => List.getD [r_sLine_0 x2 x3 x4 x5, r_sLine_1 x2 x3 x4 x5, r_sLine_2 x2 x3 x4 x5, r_sLine_3 x2 x3 x4 x5, r_sLine_4 x2 x3 x4 x5, r_sLine_5 x2 x3 x4 x5, r_sLine_6 x2 x3 x4 x5, r_sLine_7 x2 x3 x4 x5] i (0 : Int)) x1 (8 : Nat) (0 : Nat) (Mem.stM { n := n10, g := g10, h := h10, off := x6, burns := x7, left := x8, steps := x9 } x1 (7 : Int) (0 : Int))).fst x0 x1) x0).g) ((16 : Nat)) ((2 : Nat)) ((Mem.feM (Mem.flM (stL (fun (i : Nat) => List.getD [r_sLine_0 x2 x3 x4 x5, r_sLine_1 x2 x3 x4 x5, r_sLine_2 x2 x3 x4 x5, r_sLine_3 x2 x3 x4 x5, r_sLine_4 x2 x3 x4 x5, r_sLine_5 x2 x3 x4 x5, r_sLine_6 x2 x3 x4 x5, r_sLine_7 x2 x3 x4 x5] i (0 : Int)) x1 (8 : Nat) (0 : Nat) (Mem.stM { n := n10, g := g10, h := h10, off := x6, burns := x7, left := x8, steps := x9 } x1 (7 : Int) (0 : Int))).fst x0 x1) x0).h))])
 (.no)))
 (.no)))
 (.no))
noncomputable def T_sWrite_s1 (x0 : Int) (x1 : Int) (x2 : Int) (x3 : Int) (x4 : Int) (x5 : Int) (x6 : Bool) (x7 : Bool) (x8 : Int) (x9 : Int) (n10 : Nat) (g10 : Nat → Nat → Int) (h10 : Nat → Nat → Int) : Tr (List At) :=
 .br 0 (pdec (Mem.Ok (900000 : Int) { n := n10, g := g10, h := h10, off := x6, burns := x7, left := x8, steps := x9 }))
 (T_sWrite_s0 x0 x1 x2 x3 x4 x5 x6 x7 x8 x9 n10 g10 h10)
 (.no)
noncomputable def T_sWrite (x0 : Int) (x1 : Int) (x2 : Int) (x3 : Int) (x4 : Int) (x5 : Int) (x6 : Bool) (x7 : Bool) (x8 : Int) (x9 : Int) (n10 : Nat) (g10 : Nat → Nat → Int) (h10 : Nat → Nat → Int) : Tr (List At) :=
 .br 0 (ok_sLine x2 x3 x4 x5)
 (.br 23 (r_sLine_8 x2 x3 x4 x5 != (0 : Int))
 (.ok [(.i ((1 : Int))), (.b (x6)), (.b (x7)), (.i (x8)), (.i (x9)), (.q (n10) (g10) ((16 : Nat)) ((2 : Nat)) (h10))])
 (.br 26 (x1 != (0 : Int))
 (.br 30 (x1 != (1 : Int))
 (.ok [(.i ((1 : Int))), (.b (x6)), (.b (x7)), (.i (x8)), (.i (x9)), (.q (n10) (g10) ((16 : Nat)) ((2 : Nat)) (h10))])
 (T_sWrite_s1 x0 x1 x2 x3 x4 x5 x6 x7 x8 x9 n10 g10 h10))
 (T_sWrite_s1 x0 x1 x2 x3 x4 x5 x6 x7 x8 x9 n10 g10 h10)))
 (.no)
noncomputable def y_sWrite : Nat → Option Nat := (syOf3 [23, 26, 30, 35, 56] [] [])
noncomputable def TL_sWrite (l : List At) : Tr (List At) := T_sWrite (aI l 0) (aI l 1) (aI l 2) (aI l 3) (aI l 4) (aI l 5) (aB l 6) (aB l 7) (aI l 8) (aI l 9) (aRn l 10) (aRg l 10) (aMh l 10 16 2)
theorem e_sWrite (l : List At) : (call Try.prog Γ_sFind y_sWrite Lp_sWrite_8 100 Try.f22 (mkV ish_sWrite l) (mkH ish_sWrite l)).bind (leafO 3 osh_sWrite) = TL_sWrite l := by kernel_rfl
end Go.Proofs.Ytgmhggipaopoiaa.G
end

/-
  Write, in plain words.
-/
section
namespace Go.Proofs.Ytgmhggipaopoiaa.G
open Go Go.AM Go.Proofs

noncomputable def wrM (w : Nat → Int) (m : Mem) (core slot : Int) : Mem × Int :=
  if m.stC slot 7 ≠ 0 then (m.stM slot 7 0, m.stC slot 7) else
  if (stL w slot 8 0 (m.stM slot 7 0)).2 ≠ 0 then stL w slot 8 0 (m.stM slot 7 0) else
  if (stL w slot 8 0 (m.stM slot 7 0)).1.stC slot core ≠ 0 then ((stL w slot 8 0 (m.stM slot 7 0)).1.flM core slot, (stL w slot 8 0 (m.stM slot 7 0)).1.stC slot core) else
  (((stL w slot 8 0 (m.stM slot 7 0)).1.flM core slot).feM core, ((stL w slot 8 0 (m.stM slot 7 0)).1.flM core slot).feC core)

noncomputable def slW (x2 x3 x4 x5 : Int) : Nat → Int := fun i => [r_sLine_0 x2 x3 x4 x5, r_sLine_1 x2 x3 x4 x5, r_sLine_2 x2 x3 x4 x5, r_sLine_3 x2 x3 x4 x5, r_sLine_4 x2 x3 x4 x5, r_sLine_5 x2 x3 x4 x5, r_sLine_6 x2 x3 x4 x5, r_sLine_7 x2 x3 x4 x5].getD i 0

theorem stL_ok {w : Nat → Int} {s : Int} : ∀ (k i : Nat) (M : Mem) (K : Int), M.Ok K → K + k ≤ 900000 → (stL w s k i M).1.Ok (K + k)
  | 0, _, _, _, h, _ => h.mono (by omega)
  | k + 1, i, M, K, h, hK => by
    rw [stL]
    have h1 := stM_ok (i := s) (w := (i : Int)) (v := w i) h (by omega)
    split
    · exact (stL_ok k (i + 1) _ (K + 1) h1 (by omega)).mono (by omega)
    · exact h1.mono (by omega)

def badW (x1 c : Int) : Bool := c != 0 || (x1 != 0 && x1 != 1)

theorem t_sWrite (x0 x1 x2 x3 x4 x5 : Int) (m : Mem) (hm : m.Ok 880000) (hk : ok_sLine x2 x3 x4 x5 = true) :
    (T_sWrite x0 x1 x2 x3 x4 x5 m.off m.burns m.left m.steps m.n m.g m.h).sat fun r => AtsEq r (bif badW x1 (r_sLine_8 x2 x3 x4 x5) then .i 1 :: m.ats else .i (wrM (slW x2 x3 x4 x5) m x0 x1).2 :: (wrM (slW x2 x3 x4 x5) m x0 x1).1.ats) := by
  have ok1 := stM_ok (i := x1) (w := 7) (v := 0) hm (by decide)
  have ok2 := stL_ok (w := slW x2 x3 x4 x5) (s := x1) 8 0 _ _ ok1 (by decide)
  have ok3 := flM_ok (c := x0) (i := x1) ok2
  have main : (T_sWrite_s1 x0 x1 x2 x3 x4 x5 m.off m.burns m.left m.steps m.n m.g m.h).sat fun r => AtsEq r (.i (wrM (slW x2 x3 x4 x5) m x0 x1).2 :: (wrM (slW x2 x3 x4 x5) m x0 x1).1.ats) := by
    unfold T_sWrite_s1 T_sWrite_s0 wrM
    refine brT (pdec_yes (hm.mono (by decide))) (brNE (fun h1 => Tr.sat_ok.2 ?_) (fun h1 => brT (pdec_yes ⟨Int.le_refl _, by decide, ok1.mono (by decide)⟩) (brC (fun h2 => Tr.sat_ok.2 ?_) (fun h2 => brT ?_ (brC (fun h3 => Tr.sat_ok.2 ?_) (fun h3 => brT ?_ (Tr.sat_ok.2 ?_)))))))
    · rw [if_pos h1]; exact AtsEq.refl _
    · have h2' : (stL (slW x2 x3 x4 x5) x1 8 0 (m.stM x1 7 0)).2 ≠ 0 := by
        have e : ((stL (slW x2 x3 x4 x5) x1 8 0 (m.stM x1 7 0)).2 != 0) = true := h2
        simpa using e
      rw [if_neg (fun hh => hh h1), if_pos h2']
      exact AtsEq.refl _
    · exact pdec_yes (ok2.mono (by decide))
    · have h2' : ¬ (stL (slW x2 x3 x4 x5) x1 8 0 (m.stM x1 7 0)).2 ≠ 0 := by
        have e : ((stL (slW x2 x3 x4 x5) x1 8 0 (m.stM x1 7 0)).2 != 0) = false := h2
        simpa using e
      have h3' : (stL (slW x2 x3 x4 x5) x1 8 0 (m.stM x1 7 0)).1.stC x1 x0 ≠ 0 := by
        have e : ((stL (slW x2 x3 x4 x5) x1 8 0 (m.stM x1 7 0)).1.stC x1 x0 != 0) = true := h3
        simpa using e
      rw [if_neg (fun hh => hh h1), if_neg h2', if_pos h3']
      exact AtsEq.refl _
    · exact pdec_yes (ok3.mono (by decide))
    · have h2' : ¬ (stL (slW x2 x3 x4 x5) x1 8 0 (m.stM x1 7 0)).2 ≠ 0 := by
        have e : ((stL (slW x2 x3 x4 x5) x1 8 0 (m.stM x1 7 0)).2 != 0) = false := h2
        simpa using e
      have h3' : ¬ (stL (slW x2 x3 x4 x5) x1 8 0 (m.stM x1 7 0)).1.stC x1 x0 ≠ 0 := by
        have e : ((stL (slW x2 x3 x4 x5) x1 8 0 (m.stM x1 7 0)).1.stC x1 x0 != 0) = false := h3
        simpa using e
      rw [if_neg (fun hh => hh h1), if_neg h2', if_neg h3']
      exact AtsEq.refl _
  unfold T_sWrite badW
  refine brT hk (brNE (fun h1 => Tr.sat_ok.2 ?_) (fun h1 => brNE (fun h2 => brNE (fun h3 => Tr.sat_ok.2 ?_) (fun h3 => ?_)) (fun h2 => ?_)))
  · have e : (r_sLine_8 x2 x3 x4 x5 != 0) = true := by simpa using h1
    rw [e]; exact AtsEq.refl _
  · have e : (x1 != 0) = true := by simpa using h2
    have e' : (x1 != 1) = true := by simpa using h3
    rw [e, e', h1]; exact AtsEq.refl _
  · subst h3; rw [h1]; exact main
  · subst h2; rw [h1]; exact main

noncomputable def wrA (w : Nat → Int) (c : Int) (m : Mem) (core slot : Int) : Mem × Int := bif badW slot c then (m, 1) else wrM w m core slot

noncomputable def F2_sWrite (l : List At) : Tr (List At) := .br 0 (pdec (Mem.Ok 880000 (mm l 6))) (.br 0 (ok_sLine (aI l 2) (aI l 3) (aI l 4) (aI l 5))
  (.ok (.i (wrA (slW (aI l 2) (aI l 3) (aI l 4) (aI l 5)) (r_sLine_8 (aI l 2) (aI l 3) (aI l 4) (aI l 5)) (mm l 6) (aI l 0) (aI l 1)).2 :: (wrA (slW (aI l 2) (aI l 3) (aI l 4) (aI l 5)) (r_sLine_8 (aI l 2) (aI l 3) (aI l 4) (aI l 5)) (mm l 6) (aI l 0) (aI l 1)).1.ats)) .no) .no
theorem s2_sWrite : SpecF Try.prog 22 (.eff (locF ish_sWrite osh_sWrite F2_sWrite)) :=
  spec_loc (sy := y_sWrite) (fuel := 100) (Lp := Lp_sWrite_8) o_sFind mixed ⟨Try.func22, by kernel_rfl, by kernel_rfl⟩ ish_sWrite osh_sWrite lk_sWrite_8 (hT_of e_sWrite fun l r h => by
    obtain ⟨h1, h⟩ := guard_val h
    obtain ⟨h2, h⟩ := guard_val h
    have key := t_sWrite (aI l 0) (aI l 1) (aI l 2) (aI l 3) (aI l 4) (aI l 5) (mm l 6) (of_pdec h1) h2
    have := val_ok h
    subst this
    unfold wrA
    cases hb : badW (aI l 1) (r_sLine_8 (aI l 2) (aI l 3) (aI l 4) (aI l 5)) with
    | true => rw [hb] at key; exact key
    | false => rw [hb] at key; exact key)

/-! ### Find -/

def on16 {α : Type} (f : Int → Int → Int → Int → Int → Int → Int → Int → Int → Int → Int → Int → Int → Int → Int → Int → α) (m : Mem) : α :=
  f (m.ldW 0 0) (m.ldW 0 1) (m.ldW 0 2) (m.ldW 0 3) (m.ldW 0 4) (m.ldW 0 5) (m.ldW 0 6) (m.ldW 0 7) (m.ldW 1 0) (m.ldW 1 1) (m.ldW 1 2) (m.ldW 1 3) (m.ldW 1 4) (m.ldW 1 5) (m.ldW 1 6) (m.ldW 1 7)
def fdC (m : Mem) : Int := bif m.ldC 0 != 0 then m.ldC 0 else bif m.ldC 1 != 0 then m.ldC 1 else bif !(on16 r_sBest_5 m) then 20 else 0
def fdI (f : Int → Int → Int → Int → Int → Int → Int → Int → Int → Int → Int → Int → Int → Int → Int → Int → Int) (m : Mem) : Int := bif fdC m == 0 then on16 f m else 0

noncomputable def F2_sFind (l : List At) : Tr (List At) := .br 0 (on16 ok_sBest (mm l 0)) (.ok [.i (fdI r_sBest_0 (mm l 0)), .i (fdI r_sBest_1 (mm l 0)), .i (fdI r_sBest_2 (mm l 0)), .i (fdI r_sBest_3 (mm l 0)), .i (fdI r_sBest_4 (mm l 0)), .i (fdC (mm l 0))]) .no

theorem t_sFind (m : Mem) (h : on16 ok_sBest m = true) : (T_sFind m.off m.burns m.left m.steps m.n m.g m.h).sat fun r => AtsEq r [.i (fdI r_sBest_0 m), .i (fdI r_sBest_1 m), .i (fdI r_sBest_2 m), .i (fdI r_sBest_3 m), .i (fdI r_sBest_4 m), .i (fdC m)] := by
  unfold T_sFind
  refine brC (fun h1 => Tr.sat_ok.2 ?_) (fun h1 => brC (fun h2 => Tr.sat_ok.2 ?_) (fun h2 => brT h (brC (fun h3 => Tr.sat_ok.2 ?_) (fun h3 => Tr.sat_ok.2 ?_))))
  · have h1' : (m.ldC 0 != 0) = true := h1
    have e : fdC m = m.ldC 0 := by unfold fdC; rw [h1']; rfl
    have e0 : (fdC m == 0) = false := by rw [e]; simpa using h1'
    unfold fdI
    rw [e0, e]
    exact AtsEq.refl _
  · have h1' : (m.ldC 0 != 0) = false := h1
    have h2' : (m.ldC 1 != 0) = true := h2
    have e : fdC m = m.ldC 1 := by unfold fdC; rw [h1', h2']; rfl
    have e0 : (fdC m == 0) = false := by rw [e]; simpa using h2'
    unfold fdI
    rw [e0, e]
    exact AtsEq.refl _
  · have h1' : (m.ldC 0 != 0) = false := h1
    have h2' : (m.ldC 1 != 0) = false := h2
    have h3' : (!(on16 r_sBest_5 m)) = true := h3
    have e : fdC m = 20 := by unfold fdC; rw [h1', h2', h3']; rfl
    unfold fdI
    rw [e]
    exact AtsEq.refl _
  · have h1' : (m.ldC 0 != 0) = false := h1
    have h2' : (m.ldC 1 != 0) = false := h2
    have h3' : (!(on16 r_sBest_5 m)) = false := h3
    have e : fdC m = 0 := by unfold fdC; rw [h1', h2', h3']; rfl
    unfold fdI
    rw [e]
    exact AtsEq.refl _

theorem s2_sFind : SpecF Try.prog 23 (.read (locR ish_sFind osh_sFind F2_sFind)) :=
  spec_read (sy := y_sFind) (fuel := 100) (Lp := noLoops) o_R1 mixed ⟨Try.func23, by kernel_rfl, by kernel_rfl⟩ ish_sFind osh_sFind (by kernel_rfl) (noLoops_ok _) (hT_of e_sFind fun l r h => by
    obtain ⟨h1, h⟩ := guard_val h
    have := val_ok h
    subst this
    exact t_sFind (mm l 0) h1)
noncomputable def Γ_R2 : Specs := upd (upd Γ_sFind 22 (.eff (locF ish_sWrite osh_sWrite F2_sWrite))) 23 (.read (locR ish_sFind osh_sFind F2_sFind))
theorem o_R2 : SpecOK Try.prog Γ_R2 := SpecOK.upd (SpecOK.upd o_sFind s2_sWrite) s2_sFind
end Go.Proofs.Ytgmhggipaopoiaa.G
end

/-
  What functions of the seat compute, printed by a program from the explorer.
-/
section
namespace Go.Proofs.Ytgmhggipaopoiaa.G
open Go Go.AM Go.Proofs
/-! ### ris -/

noncomputable def ish_ris : FSh := ⟨[.v false [.p 0 0], .v false [.k (.n .i64)]], [.roc [.sw 1 8, .sw 2 1, .k .b, .k (.n .i64), .k (.n .i64)], .rows [.n .u64, .n .u64, .n .u64, .n .u64, .n .u64, .n .u64, .n .u64, .n .u64] false, .nrows [.n .i64] 0 [.n .i64, .n .u64, .b, .b, .b, .b, .b, .b, .b, .b] 3 false false, .no]⟩
noncomputable def osh_ris : FSh := ⟨[.v false [.k .b]], [.no, .no, .no, .no]⟩
noncomputable def T_ris (x0 : Int) (x1 : Bool) (x2 : Int) (x3 : Int) (n4 : Nat) (g4 : Nat → Nat → Int) (n5 : Nat) (g5 : Nat → Nat → Int) (h5 : Nat → Nat → Int) : Tr (List At) :=
 .br 7 (Decidable.decide (x0 ≥ (0 : Int)))
 (.ok [(.b (Decidable.decide (x0 < (↑n4 : Int))))])
 (.ok [(.b (Bool.false))])
noncomputable def y_ris : Nat → Option Nat := (syOf3 [7] [] [])
noncomputable def TL_ris (l : List At) : Tr (List At) := T_ris (aI l 0) (aB l 1) (aI l 2) (aI l 3) (aRn l 4) (aRg l 4) (aRn l 5) (aRg l 5) (aMh l 5 0 10)
theorem e_ris (l : List At) : (call Try.prog Γ_R2 y_ris noLoops 100 Try.f53 (mkV ish_ris l) (mkH ish_ris l)).bind (leafO 4 osh_ris) = TL_ris l := by kernel_rfl
noncomputable def F_ris : List At → Tr (List At) := TL_ris
theorem s_ris : SpecF Try.prog 53 (.read (locR ish_ris osh_ris F_ris)) :=
  spec_read (sy := y_ris) (fuel := 100) (Lp := noLoops) o_R2 mixed ⟨Try.func53, by kernel_rfl, by kernel_rfl⟩ ish_ris osh_ris (by kernel_rfl) (noLoops_ok _) (hT_ways e_ris)
noncomputable def Γ_ris : Specs := upd Γ_R2 53 (.read (locR ish_ris osh_ris F_ris))
theorem o_ris : SpecOK Try.prog Γ_ris := SpecOK.upd o_R2 s_ris

/-! ### rstep -/

noncomputable def ish_rstep : FSh := ⟨[.v false [.p 0 0]], [.cells [.opq 1, .opq 2, .k .b, .k (.n .i64), .k (.n .i64)], .no, .no]⟩
noncomputable def osh_rstep : FSh := ⟨[.v false [.k (.n .i64)]], [.cells [.opq 1, .opq 2, .k .b, .k (.n .i64), .k (.n .i64)], .no, .no]⟩
noncomputable def T_rstep (x0 : Bool) (x1 : Int) (x2 : Int) : Tr (List At) :=
 .br 7 (x0)
 (.ok [(.i ((4 : Int))), (.b (Bool.true)), (.i (x1)), (.i (x2))])
 (.br 13 (x1 == (0 : Int))
 (.ok [(.i ((4 : Int))), (.b (Bool.true)), (.i (x1)), (.i (x2))])
 (.br 21 (Decidable.decide (x1 > (0 : Int)))
 (.ok [(.i ((0 : Int))), (.b (x0)), (.i (Go.IntKind.wrap Go.IntKind.i64 (x1 - (1 : Int)))), (.i (Go.IntKind.wrap Go.IntKind.i64 (x2 + (1 : Int))))])
 (.ok [(.i ((0 : Int))), (.b (x0)), (.i (x1)), (.i (Go.IntKind.wrap Go.IntKind.i64 (x2 + (1 : Int))))])))
noncomputable def y_rstep : Nat → Option Nat := (syOf3 [7, 13, 21] [] [])
noncomputable def TL_rstep (l : List At) : Tr (List At) := T_rstep (aB l 0) (aI l 1) (aI l 2)
theorem e_rstep (l : List At) : (call Try.prog Γ_ris y_rstep noLoops 100 Try.f54 (mkV ish_rstep l) (mkH ish_rstep l)).bind (leafO 3 osh_rstep) = TL_rstep l := by kernel_rfl
noncomputable def F_rstep : List At → Tr (List At) := TL_rstep
theorem s_rstep : SpecF Try.prog 54 (.eff (locF ish_rstep osh_rstep F_rstep)) :=
  spec_loc (sy := y_rstep) (fuel := 100) (Lp := noLoops) o_ris mixed ⟨Try.func54, by kernel_rfl, by kernel_rfl⟩ ish_rstep osh_rstep (noLoops_ok _) (hT_ways e_rstep)
noncomputable def Γ_rstep : Specs := upd Γ_ris 54 (.eff (locF ish_rstep osh_rstep F_rstep))
theorem o_rstep : SpecOK Try.prog Γ_rstep := SpecOK.upd o_ris s_rstep

end Go.Proofs.Ytgmhggipaopoiaa.G
end

/-
  What functions of the seat compute, printed by a program from the explorer.
-/
section
namespace Go.Proofs.Ytgmhggipaopoiaa.G
open Go Go.AM Go.Proofs
/-! ### the loop at 3 of rhas -/

noncomputable def lsh_rhas_3 : FSh := ⟨[.v false [.p 0 0], .v false [.k (.n .i64)], .v false [.k (.n .i64)], .any, .any, .any, .v false [.p 4 0], .v false [.p 5 0], .v false [.k (.n .i64)], .any, .any, .any, .any, .any, .any, .any, .any, .any, .any, .any, .any, .any, .any, .any, .any, .any, .any, .any, .any, .any, .any, .any, .any, .any, .any, .any, .any, .any, .any, .any, .any, .any, .any, .any, .any], [.roc [.sw 1 8, .sw 2 1, .k .b, .k (.n .i64), .k (.n .i64)], .rows [.n .u64, .n .u64, .n .u64, .n .u64, .n .u64, .n .u64, .n .u64, .n .u64] false, .nrows [.n .i64] 0 [.n .i64, .n .u64, .b, .b, .b, .b, .b, .b, .b, .b] 3 false false, .no, .cells [.k (.n .u64), .k (.n .u64), .k (.n .u64), .k (.n .u64), .k (.n .u64), .k (.n .u64), .k (.n .u64), .k (.n .u64)], .cells [.k (.n .u64), .k (.n .u64), .k (.n .u64), .k (.n .u64), .k (.n .u64), .k (.n .u64), .k (.n .u64), .k (.n .u64)]]⟩
noncomputable def xsh_rhas_3_0 : FSh := ⟨[.any, .any, .any, .any, .any, .any, .v false [.p 4 0], .v false [.p 5 0], .any, .any, .any, .any, .any, .any, .any, .any, .any, .any, .any, .any, .any, .any, .any, .any, .any, .any, .any, .any, .any, .any, .any, .any, .any, .any, .any, .any, .any, .any, .any, .any, .any, .any, .any, .any, .any], [.no, .no, .no, .no, .cells [.k (.n .u64), .k (.n .u64), .k (.n .u64), .k (.n .u64), .k (.n .u64), .k (.n .u64), .k (.n .u64), .k (.n .u64)], .cells [.k (.n .u64), .k (.n .u64), .k (.n .u64), .k (.n .u64), .k (.n .u64), .k (.n .u64), .k (.n .u64), .k (.n .u64)]]⟩
noncomputable def xs_rhas_3 : Exs := fun e => match e with
  | .normal => some lsh_rhas_3
  | .exit n => (match Nat.beq n 0 with | true => some xsh_rhas_3_0 | false => none)
  | .ret => none
noncomputable def B_rhas_3 (x0 : Int) (x1 : Int) (x2 : Int) (x3 : Bool) (x4 : Int) (x5 : Int) (n6 : Nat) (g6 : Nat → Nat → Int) (n7 : Nat) (g7 : Nat → Nat → Int) (h7 : Nat → Nat → Int) (x8 : Int) (x9 : Int) (x10 : Int) (x11 : Int) (x12 : Int) (x13 : Int) (x14 : Int) (x15 : Int) (x16 : Int) (x17 : Int) (x18 : Int) (x19 : Int) (x20 : Int) (x21 : Int) (x22 : Int) (x23 : Int) : Tr (Ex × List At) :=
 .br 18 (Decidable.decide (x2 < x1))
 (.br 26 (Go.AM.within x0 n7)
 (.br 29 (Go.AM.within x2 (Int.toNat (g7 (Int.toNat x0) (0 : Nat))))
 (.br 37 (Go.AM.within x0 n7)
 (.br 40 (Go.AM.within x2 (Int.toNat (g7 (Int.toNat x0) (0 : Nat))))
 (.br 200043 (Go.AM.within (h7 (Int.toNat x0) (Int.toNat x2 * (10 : Nat) + (0 : Nat))) (8 : Nat))
 (.ok (.normal, [(.i (x0)), (.i (x1)), (.i (Go.IntKind.wrap Go.IntKind.i64 (x2 + (1 : Int)))), (.b (x3)), (.i (x4)), (.i (x5)), (.r (n6) (g6)), (.q (n7) (g7) ((0 : Nat)) ((10 : Nat)) (h7)), (.i (x8)), (.i (x9)), (.i (x10)), (.i (x11)), (.i (x12)), (.i (x13)), (.i (x14)), (.i (x15)), (.i (bif Nat.beq (Int.toNat (h7 (Int.toNat x0) (Int.toNat x2 * (10 : Nat) + (0 : Nat)))) (0 : Nat) then h7 (Int.toNat x0) (Int.toNat x2 * (10 : Nat) + (1 : Nat)) else x16)), (.i (bif Nat.beq (Int.toNat (h7 (Int.toNat x0) (Int.toNat x2 * (10 : Nat) + (0 : Nat)))) (1 : Nat) then h7 (Int.toNat x0) (Int.toNat x2 * (10 : Nat) + (1 : Nat)) else x17)), (.i (bif Nat.beq (Int.toNat (h7 (Int.toNat x0) (Int.toNat x2 * (10 : Nat) + (0 : Nat)))) (2 : Nat) then h7 (Int.toNat x0) (Int.toNat x2 * (10 : Nat) + (1 : Nat)) else x18)), (.i (bif Nat.beq (Int.toNat (h7 (Int.toNat x0) (Int.toNat x2 * (10 : Nat) + (0 : Nat)))) (3 : Nat) then h7 (Int.toNat x0) (Int.toNat x2 * (10 : Nat) + (1 : Nat)) else x19)), (.i (bif Nat.beq (Int.toNat (h7 (Int.toNat x0) (Int.toNat x2 * (10 : Nat) + (0 : Nat)))) (4 : Nat) then h7 (Int.toNat x0) (Int.toNat x2 * (10 : Nat) + (1 : Nat)) else x20)), (.i (bif Nat.beq (Int.toNat (h7 (Int.toNat x0) (Int.toNat x2 * (10 : Nat) + (0 : Nat)))) (5 : Nat) then h7 (Int.toNat x0) (Int.toNat x2 * (10 : Nat) + (1 : Nat)) else x21)), (.i (bif Nat.beq (Int.toNat (h7 (Int.toNat x0) (Int.toNat x2 * (10 : Nat) + (0 : Nat)))) (6 : Nat) then h7 (Int.toNat x0) (Int.toNat x2 * (10 : Nat) + (1 : Nat)) else x22)), (.i (bif Nat.beq (Int.toNat (h7 (Int.toNat x0) (Int.toNat x2 * (10 : Nat) + (0 : Nat)))) (7 : Nat) then h7 (Int.toNat x0) (Int.toNat x2 * (10 : Nat) + (1 : Nat)) else x23))]))
 (.no))
 (.no))
 (.no))
 (.no))
 (.no))
 (.ok (.exit 0, [(.i (x8)), (.i (x9)), (.i (x10)), (.i (x11)), (.i (x12)), (.i (x13)), (.i (x14)), (.i (x15)), (.i (x16)), (.i (x17)), (.i (x18)), (.i (x19)), (.i (x20)), (.i (x21)), (.i (x22)), (.i (x23))]))
noncomputable def y_rhas_3 : Nat → Option Nat := (syOf3 [18, 26, 29, 37, 40] [] [43])
noncomputable def BL_rhas_3 (l : List At) : Tr (Ex × List At) := B_rhas_3 (aI l 0) (aI l 1) (aI l 2) (aB l 3) (aI l 4) (aI l 5) (aRn l 6) (aRg l 6) (aRn l 7) (aRg l 7) (aMh l 7 0 10) (aI l 8) (aI l 9) (aI l 10) (aI l 11) (aI l 12) (aI l 13) (aI l 14) (aI l 15) (aI l 16) (aI l 17) (aI l 18) (aI l 19) (aI l 20) (aI l 21) (aI l 22) (aI l 23)
theorem eB_rhas_3 (l : List At) : (exec Try.prog Γ_rstep y_rhas_3 noLoops 100 (loopAt Try.f55 3) ⟨mkV lsh_rhas_3 l, mkH lsh_rhas_3 l⟩).bind (leafL 4 xs_rhas_3) = BL_rhas_3 l := by kernel_rfl
/- by hand: O_rhas_3 (x0 : Int) (x1 : Int) (x2 : Int) (x3 : Bool) (x4 : Int) (x5 : Int) (n6 : Nat) (g6 : Nat → Nat → Int) (n7 : Nat) (g7 : Nat → Nat → Int) (h7 : Nat → Nat → Int) (x8 : Int) (x9 : Int) (x10 : Int) (x11 : Int) (x12 : Int) (x13 : Int) (x14 : Int) (x15 : Int) (x16 : Int) (x17 : Int) (x18 : Int) (x19 : Int) (x20 : Int) (x21 : Int) (x22 : Int) (x23 : Int) : Tr (Ex × List At); OL_rhas_3 (l) := O_rhas_3 (aI l 0) (aI l 1) (aI l 2) (aB l 3) (aI l 4) (aI l 5) (aRn l 6) (aRg l 6) (aRn l 7) (aRg l 7) (aMh l 7 0 10) (aI l 8) (aI l 9) (aI l 10) (aI l 11) (aI l 12) (aI l 13) (aI l 14) (aI l 15) (aI l 16) (aI l 17) (aI l 18) (aI l 19) (aI l 20) (aI l 21) (aI l 22) (aI l 23); μ_rhas_3 : List At → Nat; rd_rhas_3 : ∀ l r, (OL_rhas_3 l).val = some r → RoundA BL_rhas_3 OL_rhas_3 μ_rhas_3 l r -/

end Go.Proofs.Ytgmhggipaopoiaa.G
end

/-
  The reference's memory, in plain words.
-/
section
namespace Go.Proofs.Ytgmhggipaopoiaa.G
open Go Go.AM Go.Proofs

def rw8 (a b c d e f g h : Int) : Nat → Int
  | 0 => a | 1 => b | 2 => c | 3 => d | 4 => e | 5 => f | 6 => g | 7 => h | _ => 0
def ra8 (w : Nat → Int) : List At := [.i (w 0), .i (w 1), .i (w 2), .i (w 3), .i (w 4), .i (w 5), .i (w 6), .i (w 7)]
def rsetW (w : Nat → Int) (t : Nat) (v : Int) : Nat → Int := fun c => if c = t then v else w c

theorem rw8_set {a b c d e f g h v : Int} {t : Nat} (ht : t < 8) : rw8 (bif Nat.beq t 0 then v else a) (bif Nat.beq t 1 then v else b) (bif Nat.beq t 2 then v else c) (bif Nat.beq t 3 then v else d) (bif Nat.beq t 4 then v else e) (bif Nat.beq t 5 then v else f) (bif Nat.beq t 6 then v else g) (bif Nat.beq t 7 then v else h) = rsetW (rw8 a b c d e f g h) t v := by
  funext k
  unfold rsetW
  match t, ht with
  | 0, _ | 1, _ | 2, _ | 3, _ | 4, _ | 5, _ | 6, _ | 7, _ =>
    match k with
    | 0 | 1 | 2 | 3 | 4 | 5 | 6 | 7 => rfl
    | n + 8 => rw [if_neg (by omega)]; rfl

def pk (hr : Nat → Int) : Nat → Int := fun k => hr (k / 2 * 10 + k % 2)
theorem pk0 (hr : Nat → Int) (j : Nat) : pk hr (j * 2) = hr (j * 10) := by
  unfold pk
  rw [show j * 2 / 2 = j by omega, show j * 2 % 2 = 0 by omega, Nat.add_zero]
theorem pk1 (hr : Nat → Int) (j : Nat) : pk hr (j * 2 + 1) = hr (j * 10 + 1) := by
  unfold pk
  rw [show (j * 2 + 1) / 2 = j by omega, show (j * 2 + 1) % 2 = 1 by omega]

structure RMem where
  n : Nat
  S : Nat → Nat → Int
  k : Nat
  G : Nat → Nat → Int
  L : Nat → Nat → Int
  off : Bool
  left : Int
  count : Int

def mmr (l : List At) (i : Nat) : RMem := ⟨aRn l (i + 3), aRg l (i + 3), aRn l (i + 4), aRg l (i + 4), aMh l (i + 4) 0 10, aB l i, aI l (i + 1), aI l (i + 2)⟩
def RMem.ats (y : RMem) : List At := [.b y.off, .i y.left, .i y.count, .r y.n y.S, .q y.k y.G 0 10 y.L]

def RRowOk (c : Int) (hr : Nat → Int) : Prop := 0 ≤ c ∧ c ≤ 1000000 ∧ ∀ j : Nat, (j : Int) < c → 0 ≤ hr (j * 10) ∧ hr (j * 10) < 8
def RMem.Ok (K : Int) (y : RMem) : Prop := (-1 ≤ y.left ∧ y.left ≤ 9223372036854775807) ∧ (0 ≤ y.count ∧ y.count ≤ K) ∧ (y.k = y.n ∧ y.n ≤ 1073741824) ∧ ∀ i, i < y.n → RRowOk (y.G i 0) (y.L i) ∧ y.G i 0 ≤ y.count
theorem RMem.Ok.mono {K K' : Int} {y : RMem} (h : y.Ok K) (hk : K ≤ K') : y.Ok K' := ⟨h.1, ⟨h.2.1.1, by have := h.2.1.2; omega⟩, h.2.2⟩

/-! ### what each call makes of it -/

def rpoB (o : Bool) (l : Int) : Bool := o || l == 0
def rcodI (o : Bool) (l : Int) : Int := bif rpoB o l then 4 else 0
def rleftI (o : Bool) (l : Int) : Int := bif rpoB o l then l else bif decide (l > 0) then l - 1 else l
def rcntI (o : Bool) (l c : Int) : Int := bif rpoB o l then c else c + 1
def RMem.po (y : RMem) : Bool := rpoB y.off y.left
def RMem.cod (y : RMem) : Int := rcodI y.off y.left
def RMem.stp (y : RMem) : RMem := ⟨y.n, y.S, y.k, y.G, y.L, rpoB y.off y.left, rleftI y.off y.left, rcntI y.off y.left y.count⟩
def RMem.wit (y : RMem) (S G L : Nat → Nat → Int) : RMem := ⟨y.n, S, y.k, G, L, y.off, y.left, y.count⟩
def RMem.is (y : RMem) (i : Int) : Bool := decide (0 ≤ i) && decide (i < (y.n : Int))
def RMem.bad (y : RMem) (i x : Int) : Bool := !y.is i || decide (x < 0) || decide (x > 7)

def rstR (hr : Nat → Int) (c : Nat) (w v : Int) : Nat → Int := fun k => if k / 10 < c then hr k else if k % 10 = 0 then w else if k % 10 = 1 then v else 0
def RMem.stC (y : RMem) (i w : Int) : Int := bif y.bad i w then 1 else y.cod
def RMem.stM (y : RMem) (i w v : Int) : RMem := bif y.bad i w then y else bif y.po then y.stp else
  y.stp.wit y.S (updG y.G i.toNat 0 (y.G i.toNat 0 + 1)) (updR y.L i.toNat (rstR (y.L i.toNat) (y.G i.toNat 0).toNat w v))

def rflR (hr : Nat → Int) (c core : Nat) : Nat → Int := fun k => if k / 10 < c ∧ k % 10 = 2 + core then 1 else hr k
def corR (c : Int) : Bool := decide (c < 0) || decide (c > 7)
def RMem.flC (y : RMem) (c i : Int) : Int := bif (corR c || !y.is i) then 1 else y.cod
def RMem.flM (y : RMem) (c i : Int) : RMem := bif (corR c || !y.is i) then y else bif y.po then y.stp else
  y.stp.wit y.S y.G (updR y.L i.toNat (rflR (y.L i.toNat) (y.G i.toNat 0).toNat c.toNat))

def rsS (s hr : Nat → Int) (m : Nat) : Nat → Int := fun c => if c < 8 then apF s (pk hr) 0 m c else s c
def rsL (hr : Nat → Int) (m : Nat) : Nat → Int := fun k => hr (k + 10 * m)

def lastF (hr : Nat → Int) (core : Nat) : Nat → Nat
  | 0 => 0
  | m + 1 => if hr (m * 10 + (2 + core)) ≠ 0 then m + 1 else lastF hr core m
end Go.Proofs.Ytgmhggipaopoiaa.G
end

/-
  The loop of the reference's has.
-/
section
namespace Go.Proofs.Ytgmhggipaopoiaa.G
open Go Go.AM Go.Proofs

def preH (x0 x1 x2 : Int) (n : Nat) (g h : Nat → Nat → Int) : Prop :=
  0 ≤ x2 ∧ x2 ≤ x1 ∧ (0 ≤ x0 ∧ x0 < n) ∧ x1 ≤ g x0.toNat 0 ∧ x1 ≤ 1000000 ∧ ∀ j : Nat, (j : Int) < x1 → 0 ≤ h x0.toNat (j * 10) ∧ h x0.toNat (j * 10) < 8

noncomputable def O_rhas_3 (x0 x1 x2 : Int) (n7 : Nat) (g7 h7 : Nat → Nat → Int) (x8 x9 x10 x11 x12 x13 x14 x15 : Int) (w : Nat → Int) : Tr (Ex × List At) :=
  .br 0 (pdec (preH x0 x1 x2 n7 g7 h7)) (.ok (.exit 0, .i x8 :: .i x9 :: .i x10 :: .i x11 :: .i x12 :: .i x13 :: .i x14 :: .i x15 :: ra8 (apF w (pk (h7 x0.toNat)) x2.toNat (x1 - x2).toNat))) .no
noncomputable def OL_rhas_3 (l : List At) : Tr (Ex × List At) := O_rhas_3 (aI l 0) (aI l 1) (aI l 2) (aRn l 7) (aRg l 7) (aMh l 7 0 10) (aI l 8) (aI l 9) (aI l 10) (aI l 11) (aI l 12) (aI l 13) (aI l 14) (aI l 15) (rw8 (aI l 16) (aI l 17) (aI l 18) (aI l 19) (aI l 20) (aI l 21) (aI l 22) (aI l 23))
def μ_rhas_3 (l : List At) : Nat := (aI l 1 - aI l 2).toNat

theorem rd_rhas_3 : ∀ l r, (OL_rhas_3 l).val = some r → RoundS BL_rhas_3 OL_rhas_3 μ_rhas_3 l r := by
  intro l r hh
  unfold OL_rhas_3 at hh
  obtain ⟨hc, h⟩ := guard_val hh
  clear hh
  obtain ⟨c0, c1, ⟨c2, c3⟩, c4, c5, c6⟩ := of_pdec hc
  unfold RoundS BL_rhas_3 B_rhas_3
  generalize hx0 : aI l 0 = x0 at *
  generalize hx1 : aI l 1 = x1 at *
  generalize hx2 : aI l 2 = x2 at *
  generalize hn : aRn l 7 = n at *
  generalize hg : aRg l 7 = g at *
  generalize hhm : aMh l 7 0 10 = hm at *
  refine brD (fun h1 => ?_) (fun h1 => ?_)
  · obtain ⟨i, rfl⟩ := Int.eq_ofNat_of_zero_le c0
    obtain ⟨w0, w1⟩ := c6 i h1
    have hw : IntKind.i64.wrap ((i : Int) + 1) = (i : Int) + 1 := wrap_i64 (by omega) (by omega)
    have hμ : (x1 - ((i : Int) + 1)).toNat < μ_rhas_3 l := by unfold μ_rhas_3; rw [hx1, hx2]; omega
    refine brW (fun _ => brW (fun _ => brW (fun _ => brW (fun _ => brT (by simp [within]; omega) ?_) (fun hh => by exfalso; omega)) (fun hh => by exfalso; omega)) (fun hh => by exfalso; omega)) (fun hh => by exfalso; omega)
    have hq : preH x0 x1 ((i : Int) + 1) n g hm := ⟨by omega, by omega, ⟨c2, c3⟩, c4, c5, c6⟩
    have e1 : (x1 - (i : Int)).toNat = (x1 - ((i : Int) + 1)).toNat + 1 := by omega
    rw [hw, Int.toNat_natCast, Nat.add_zero]
    rw [Int.toNat_natCast, e1, apF, pk0, pk1] at h
    have k := rw8_set (a := aI l 16) (b := aI l 17) (c := aI l 18) (d := aI l 19) (e := aI l 20) (f := aI l 21) (g := aI l 22) (h := aI l 23) (v := hm x0.toNat (i * 10 + 1)) (t := (hm x0.toNat (i * 10)).toNat) (by omega)
    unfold rsetW at k
    rw [← k] at h
    exact on_ _ r (AtsEq.refl _) hμ ((br_t (g := 0) (pdec_yes hq)).trans h) rfl (AtsEq.refl _)
  · have e : (x1 - x2).toNat = 0 := by omega
    rw [e, apF] at h
    have hr := val_ok h
    subst hr
    exact out_ (by simp) rfl (AtsEq.refl _)
end Go.Proofs.Ytgmhggipaopoiaa.G
end

/-
  What functions of the seat compute, printed by a program from the explorer.
-/
section
namespace Go.Proofs.Ytgmhggipaopoiaa.G
open Go Go.AM Go.Proofs
theorem f_rhas_3 : LoopF Try.prog 4 (loopAt Try.f55 3) (loopFn 4 lsh_rhas_3 xs_rhas_3 OL_rhas_3) :=
  loop_sat (sy := y_rhas_3) (fuel := 100) (Lp := noLoops) o_rstep mixed (loopsOK_at (noLoops_ok _) 3) rfl eB_rhas_3 rd_rhas_3
noncomputable def Lp_rhas_3 : Loops := Loops.set noLoops 3 (loopFn 4 lsh_rhas_3 xs_rhas_3 OL_rhas_3)
theorem lk_rhas_3 : LoopsFn Try.prog 4 Lp_rhas_3 Try.f55 := loopsFn_set (noLoops_ok _) (by kernel_rfl) f_rhas_3

/-! ### rhas -/

noncomputable def ish_rhas : FSh := ⟨[.v false [.p 0 0], .v false [.k (.n .i64)], .v false [.k (.n .i64)]], [.roc [.sw 1 8, .sw 2 1, .k .b, .k (.n .i64), .k (.n .i64)], .rows [.n .u64, .n .u64, .n .u64, .n .u64, .n .u64, .n .u64, .n .u64, .n .u64] false, .nrows [.n .i64] 0 [.n .i64, .n .u64, .b, .b, .b, .b, .b, .b, .b, .b] 3 false false, .no]⟩
noncomputable def osh_rhas : FSh := ⟨[.v true [.k (.n .u64), .k (.n .u64), .k (.n .u64), .k (.n .u64), .k (.n .u64), .k (.n .u64), .k (.n .u64), .k (.n .u64)]], [.no, .no, .no, .no]⟩
noncomputable def T_rhas (x0 : Int) (x1 : Int) (x2 : Bool) (x3 : Int) (x4 : Int) (n5 : Nat) (g5 : Nat → Nat → Int) (n6 : Nat) (g6 : Nat → Nat → Int) (h6 : Nat → Nat → Int) : Tr (List At) :=
 .br 14 (Go.AM.within x0 n5)
 (.br 0 (pdec (preH x0 x1 (0 : Int) n6 g6 h6))
 (.ok [(.i (apF (rw8 (g5 (Int.toNat x0) (0 : Nat)) (g5 (Int.toNat x0) (1 : Nat)) (g5 (Int.toNat x0) (2 : Nat)) (g5 (Int.toNat x0) (3 : Nat)) (g5 (Int.toNat x0) (4 : Nat)) (g5 (Int.toNat x0) (5 : Nat)) (g5 (Int.toNat x0) (6 : Nat)) (g5 (Int.toNat x0) (7 : Nat))) (pk (h6 (Int.toNat x0))) (0 : Nat) (Int.toNat (x1 - (0 : Int))) (0 : Nat))), (.i (apF (rw8 (g5 (Int.toNat x0) (0 : Nat)) (g5 (Int.toNat x0) (1 : Nat)) (g5 (Int.toNat x0) (2 : Nat)) (g5 (Int.toNat x0) (3 : Nat)) (g5 (Int.toNat x0) (4 : Nat)) (g5 (Int.toNat x0) (5 : Nat)) (g5 (Int.toNat x0) (6 : Nat)) (g5 (Int.toNat x0) (7 : Nat))) (pk (h6 (Int.toNat x0))) (0 : Nat) (Int.toNat (x1 - (0 : Int))) (1 : Nat))), (.i (apF (rw8 (g5 (Int.toNat x0) (0 : Nat)) (g5 (Int.toNat x0) (1 : Nat)) (g5 (Int.toNat x0) (2 : Nat)) (g5 (Int.toNat x0) (3 : Nat)) (g5 (Int.toNat x0) (4 : Nat)) (g5 (Int.toNat x0) (5 : Nat)) (g5 (Int.toNat x0) (6 : Nat)) (g5 (Int.toNat x0) (7 : Nat))) (pk (h6 (Int.toNat x0))) (0 : Nat) (Int.toNat (x1 - (0 : Int))) (2 : Nat))), (.i (apF (rw8 (g5 (Int.toNat x0) (0 : Nat)) (g5 (Int.toNat x0) (1 : Nat)) (g5 (Int.toNat x0) (2 : Nat)) (g5 (Int.toNat x0) (3 : Nat)) (g5 (Int.toNat x0) (4 : Nat)) (g5 (Int.toNat x0) (5 : Nat)) (g5 (Int.toNat x0) (6 : Nat)) (g5 (Int.toNat x0) (7 : Nat))) (pk (h6 (Int.toNat x0))) (0 : Nat) (Int.toNat (x1 - (0 : Int))) (3 : Nat))), (.i (apF (rw8 (g5 (Int.toNat x0) (0 : Nat)) (g5 (Int.toNat x0) (1 : Nat)) (g5 (Int.toNat x0) (2 : Nat)) (g5 (Int.toNat x0) (3 : Nat)) (g5 (Int.toNat x0) (4 : Nat)) (g5 (Int.toNat x0) (5 : Nat)) (g5 (Int.toNat x0) (6 : Nat)) (g5 (Int.toNat x0) (7 : Nat))) (pk (h6 (Int.toNat x0))) (0 : Nat) (Int.toNat (x1 - (0 : Int))) (4 : Nat))), (.i (apF (rw8 (g5 (Int.toNat x0) (0 : Nat)) (g5 (Int.toNat x0) (1 : Nat)) (g5 (Int.toNat x0) (2 : Nat)) (g5 (Int.toNat x0) (3 : Nat)) (g5 (Int.toNat x0) (4 : Nat)) (g5 (Int.toNat x0) (5 : Nat)) (g5 (Int.toNat x0) (6 : Nat)) (g5 (Int.toNat x0) (7 : Nat))) (pk (h6 (Int.toNat x0))) (0 : Nat) (Int.toNat (x1 - (0 : Int))) (5 : Nat))), (.i (apF (rw8 (g5 (Int.toNat x0) (0 : Nat)) (g5 (Int.toNat x0) (1 : Nat)) (g5 (Int.toNat x0) (2 : Nat)) (g5 (Int.toNat x0) (3 : Nat)) (g5 (Int.toNat x0) (4 : Nat)) (g5 (Int.toNat x0) (5 : Nat)) (g5 (Int.toNat x0) (6 : Nat)) (g5 (Int.toNat x0) (7 : Nat))) (pk (h6 (Int.toNat x0))) (0 : Nat) (Int.toNat (x1 - (0 : Int))) (6 : Nat))), (.i (apF (rw8 (g5 (Int.toNat x0) (0 : Nat)) (g5 (Int.toNat x0) (1 : Nat)) (g5 (Int.toNat x0) (2 : Nat)) (g5 (Int.toNat x0) (3 : Nat)) (g5 (Int.toNat x0) (4 : Nat)) (g5 (Int.toNat x0) (5 : Nat)) (g5 (Int.toNat x0) (6 : Nat)) (g5 (Int.toNat x0) (7 : Nat))) (pk (h6 (Int.toNat x0))) (0 : Nat) (Int.toNat (x1 - (0 : Int))) (7 : Nat)))])
 (.no))
 (.no)
noncomputable def y_rhas : Nat → Option Nat := (syOf3 [14] [] [])
noncomputable def TL_rhas (l : List At) : Tr (List At) := T_rhas (aI l 0) (aI l 1) (aB l 2) (aI l 3) (aI l 4) (aRn l 5) (aRg l 5) (aRn l 6) (aRg l 6) (aMh l 6 0 10)
theorem e_rhas (l : List At) : (call Try.prog Γ_rstep y_rhas Lp_rhas_3 100 Try.f55 (mkV ish_rhas l) (mkH ish_rhas l)).bind (leafO 4 osh_rhas) = TL_rhas l := by kernel_rfl
noncomputable def F_rhas : List At → Tr (List At) := TL_rhas
theorem s_rhas : SpecF Try.prog 55 (.read (locR ish_rhas osh_rhas F_rhas)) :=
  spec_read (sy := y_rhas) (fuel := 100) (Lp := Lp_rhas_3) o_rstep mixed ⟨Try.func55, by kernel_rfl, by kernel_rfl⟩ ish_rhas osh_rhas (by kernel_rfl) lk_rhas_3 (hT_ways e_rhas)
noncomputable def Γ_rhas : Specs := upd Γ_rstep 55 (.read (locR ish_rhas osh_rhas F_rhas))
theorem o_rhas : SpecOK Try.prog Γ_rhas := SpecOK.upd o_rstep s_rhas

end Go.Proofs.Ytgmhggipaopoiaa.G
end

/-
  What is now is what is sure, with the stores: whatever is done.
-/
section
namespace Go.Proofs.Ytgmhggipaopoiaa.G
open Go Go.AM Go.Proofs

theorem stM_coh {m : Mem} {i w v K : Int} (h : m.Coh) (ok : m.Ok K) : (m.stM i w v).Coh := by
  intro j hj
  rw [stM_n] at hj
  unfold Mem.stM
  cases hb : m.bad i w with
  | true => exact h j hj
  | false => cases m.po with
    | true => exact h j hj
    | false =>
      obtain ⟨h0, h1, h2, h3⟩ := bad_no hb
      show Coh (updR m.g i.toNat (stR (m.g i.toNat) w.toNat v) j) (updR m.h i.toNat (stH (m.h i.toNat) (m.g i.toNat 16).toNat w v) j)
      by_cases hji : j = i.toNat
      · subst hji
        rw [updR_self, updR_self]
        exact coh_st (h _ hj) (ok.2.2.2.2 _ hj).1.1 ⟨h2, h3⟩
      · rw [updR_ne hji, updR_ne hji]; exact h j hj

theorem flM_coh {m : Mem} {c i : Int} (h : m.Coh) : (m.flM c i).Coh := by
  intro j hj
  rw [flM_n] at hj
  unfold Mem.flM
  cases hb : m.bad i c with
  | true => exact h j hj
  | false => cases m.po with
    | true => exact h j hj
    | false =>
      show Coh (updR m.g i.toNat (flR (m.g i.toNat) c.toNat) j) (m.h j)
      by_cases hji : j = i.toNat
      · subst hji
        rw [updR_self]
        exact coh_fl (h _ hj)
      · rw [updR_ne hji]; exact h j hj

theorem feM_coh {m : Mem} {c K : Int} (h : m.Coh) (ok : m.Ok K) : (m.feM c).Coh := by
  intro j hj
  rw [feM_n] at hj
  unfold Mem.feM
  cases hb : corB c with
  | true => exact h j hj
  | false => cases m.po with
    | true => exact h j hj
    | false =>
      have hc := corB_no hb
      show Coh (feG m.n m.g m.h (17 + c.toNat) 0 j) (feH m.n m.g m.h (17 + c.toNat) 0 j)
      unfold feG feH
      by_cases hp : 0 ≤ j ∧ j < m.n ∧ m.g j (17 + c.toNat) > 0
      · rw [if_pos hp, if_pos hp]
        have := (ok.2.2.2.2 j hj).1.2.2.1 (17 + c.toNat) (by omega) (by omega)
        exact coh_rowS (h j hj) (by omega)
      · rw [if_neg hp, if_neg hp]; exact h j hj

theorem crM_coh {m : Mem} {q : Nat → Int} {kn : Nat} (h : m.Coh) : (m.crM q kn).Coh := by
  intro j hj
  have hj : j < m.n := hj
  show Coh (crG m.n m.g m.h q kn 0 j) (m.h j)
  unfold crG
  by_cases hp : 0 ≤ j ∧ j < m.n ∧ m.g j 16 > 0
  · rw [if_pos hp]; exact coh_crR
  · rw [if_neg hp]; exact h j hj

theorem newM_coh (n : Nat) : (newM n).Coh := fun _ _ _ _ => rfl

end Go.Proofs.Ytgmhggipaopoiaa.G
end

/-
  The reference's step, is and has, in plain words.
-/
section
namespace Go.Proofs.Ytgmhggipaopoiaa.G
open Go Go.AM Go.Proofs

def stepOk (l c : Int) : Prop := (-1 ≤ l ∧ l ≤ 9223372036854775807) ∧ 0 ≤ c ∧ c ≤ 1000000
noncomputable def F2_rstep (l : List At) : Tr (List At) := .br 0 (pdec (stepOk (aI l 1) (aI l 2))) (.ok [.i (rcodI (aB l 0) (aI l 1)), .b (rpoB (aB l 0) (aI l 1)), .i (rleftI (aB l 0) (aI l 1)), .i (rcntI (aB l 0) (aI l 1) (aI l 2))]) .no
theorem t_rstep (o : Bool) (x c : Int) (h : stepOk x c) : (T_rstep o x c).sat fun r => AtsEq r [.i (rcodI o x), .b (rpoB o x), .i (rleftI o x), .i (rcntI o x c)] := by
  obtain ⟨⟨h1, h2⟩, h3, h4⟩ := h
  have w1 : IntKind.i64.wrap (c + 1) = c + 1 := wrap_i64 (by omega) (by omega)
  unfold T_rstep rcodI rleftI rcntI rpoB
  cases o with
  | true => exact brT rfl (Tr.sat_ok.2 (AtsEq.refl _))
  | false =>
    refine brF rfl (brC (fun hz => Tr.sat_ok.2 ?_) (fun hz => ?_))
    · rw [hz]; exact AtsEq.refl _
    · rw [hz, w1]
      refine brD (fun hp => Tr.sat_ok.2 ?_) (fun hp => Tr.sat_ok.2 ?_)
      · rw [wrap_i64 (x := x - 1) (by omega) (by omega), decide_eq_true hp]; exact AtsEq.refl _
      · rw [decide_eq_false hp]; exact AtsEq.refl _
theorem s2_rstep : SpecF Try.prog 54 (.eff (locF ish_rstep osh_rstep F2_rstep)) :=
  spec_loc (sy := y_rstep) (fuel := 100) (Lp := noLoops) o_ris mixed ⟨Try.func54, by kernel_rfl, by kernel_rfl⟩ ish_rstep osh_rstep (noLoops_ok _) (hT_of e_rstep fun l r h => by
    obtain ⟨h1, h⟩ := guard_val h
    have := val_ok h
    subst this
    exact t_rstep _ _ _ (of_pdec h1))

noncomputable def F2_ris (l : List At) : Tr (List At) := .ok [.b (RMem.is (mmr l 1) (aI l 0))]
theorem s2_ris : SpecF Try.prog 53 (.read (locR ish_ris osh_ris F2_ris)) :=
  spec_read (sy := y_ris) (fuel := 100) (Lp := noLoops) o_R2 mixed ⟨Try.func53, by kernel_rfl, by kernel_rfl⟩ ish_ris osh_ris (by kernel_rfl) (noLoops_ok _) (hT_of e_ris fun l r h => by
    have := val_ok h
    subst this
    unfold TL_ris T_ris RMem.is
    refine brD (fun hp => Tr.sat_ok.2 ?_) (fun hp => Tr.sat_ok.2 ?_)
    · rw [show decide (0 ≤ aI l 0) = true from decide_eq_true hp]; exact AtsEq.refl _
    · rw [show decide (0 ≤ aI l 0) = false from decide_eq_false hp]; exact AtsEq.refl _)

def RMem.hasOk (y : RMem) (i m : Int) : Prop := 0 ≤ m ∧ (0 ≤ i ∧ i < y.n) ∧ y.k = y.n ∧ m ≤ y.G i.toNat 0 ∧ RRowOk (y.G i.toNat 0) (y.L i.toNat)
noncomputable def F2_rhas (l : List At) : Tr (List At) := .br 0 (pdec ((mmr l 2).hasOk (aI l 0) (aI l 1))) (.ok (ra8 (rsS ((mmr l 2).S (aI l 0).toNat) ((mmr l 2).L (aI l 0).toNat) (aI l 1).toNat))) .no
theorem ra8_eq {w w' : Nat → Int} (h : ∀ c, c < 8 → w c = w' c) : AtsEq (ra8 w) (ra8 w') := by
  unfold ra8
  rw [h 0 (by decide), h 1 (by decide), h 2 (by decide), h 3 (by decide), h 4 (by decide), h 5 (by decide), h 6 (by decide), h 7 (by decide)]
  exact AtsEq.refl _
theorem rw8_get (f : Nat → Int) (c : Nat) (hc : c < 8) : rw8 (f 0) (f 1) (f 2) (f 3) (f 4) (f 5) (f 6) (f 7) c = f c := by
  match c, hc with
  | 0, _ | 1, _ | 2, _ | 3, _ | 4, _ | 5, _ | 6, _ | 7, _ => rfl
theorem t_rhas (i m : Int) (y : RMem) (h : y.hasOk i m) : (T_rhas i m y.off y.left y.count y.n y.S y.k y.G y.L).sat fun r => AtsEq r (ra8 (rsS (y.S i.toNat) (y.L i.toNat) m.toNat)) := by
  obtain ⟨h0, h1, h2, h3, h4, h5, h6⟩ := h
  unfold T_rhas
  refine brT (by simp [within]; omega) (brT (pdec_yes ⟨Int.le_refl _, h0, by omega, h3, by omega, fun j hj => h6 j (by omega)⟩) (Tr.sat_ok.2 ?_))
  rw [show m - 0 = m by omega]
  refine ra8_eq fun c hc => ?_
  unfold rsS
  rw [if_pos hc]
  exact apF_pt _ _ _ _ _ _ (rw8_get _ c hc) fun _ _ _ => ⟨rfl, rfl⟩
theorem s2_rhas : SpecF Try.prog 55 (.read (locR ish_rhas osh_rhas F2_rhas)) :=
  spec_read (sy := y_rhas) (fuel := 100) (Lp := Lp_rhas_3) o_rstep mixed ⟨Try.func55, by kernel_rfl, by kernel_rfl⟩ ish_rhas osh_rhas (by kernel_rfl) lk_rhas_3 (hT_of e_rhas fun l r h => by
    obtain ⟨h1, h⟩ := guard_val h
    have := val_ok h
    subst this
    exact t_rhas _ _ (mmr l 2) (of_pdec h1))
noncomputable def Γ_RS1 : Specs := upd (upd (upd Γ_rhas 53 (.read (locR ish_ris osh_ris F2_ris))) 54 (.eff (locF ish_rstep osh_rstep F2_rstep))) 55 (.read (locR ish_rhas osh_rhas F2_rhas))
theorem o_RS1 : SpecOK Try.prog Γ_RS1 := SpecOK.upd (SpecOK.upd (SpecOK.upd o_rhas s2_ris) s2_rstep) s2_rhas
end Go.Proofs.Ytgmhggipaopoiaa.G
end

/-
  What functions of the seat compute, printed by a program from the explorer.
-/
section
namespace Go.Proofs.Ytgmhggipaopoiaa.G
open Go Go.AM Go.Proofs
/-! ### rsure -/

noncomputable def ish_rsure : FSh := ⟨[.v false [.p 0 0], .v false [.k (.n .i64)], .v false [.k (.n .i64)]], [.cells [.sw 1 8, .sw 2 1, .k .b, .k (.n .i64), .k (.n .i64)], .rows [.n .u64, .n .u64, .n .u64, .n .u64, .n .u64, .n .u64, .n .u64, .n .u64] true, .nrows [.n .i64] 0 [.n .i64, .n .u64, .b, .b, .b, .b, .b, .b, .b, .b] 3 false true, .no]⟩
noncomputable def osh_rsure : FSh := ⟨[.tup []], [.cells [.sw 1 8, .sw 2 1, .k .b, .k (.n .i64), .k (.n .i64)], .rows [.n .u64, .n .u64, .n .u64, .n .u64, .n .u64, .n .u64, .n .u64, .n .u64] true, .nrows [.n .i64] 0 [.n .i64, .n .u64, .b, .b, .b, .b, .b, .b, .b, .b] 4 false true, .no, .no]⟩
noncomputable def T_rsure (x0 : Int) (x1 : Int) (x2 : Bool) (x3 : Int) (x4 : Int) (n5 : Nat) (g5 : Nat → Nat → Int) (n6 : Nat) (g6 : Nat → Nat → Int) (h6 : Nat → Nat → Int) : Tr (List At) :=
 .br 0 (pdec (RMem.hasOk { n := n5, S := g5, k := n6, G := g6, L := h6, off := x2, left := x3, count := x4 } x0 x1))
 (.br 15 (Go.AM.within x0 n5)
 (.br 27 (Go.AM.within x0 n6)
 (.br 30 (Decidable.decide ((0 : Int) ≤ x1) && Decidable.decide (x1 ≤ (↑(Int.toNat (g6 (Int.toNat x0) (0 : Nat))) : Int)))
 (.br 31 (Decidable.decide (Int.toNat (↑(Int.toNat (g6 (Int.toNat x0) (0 : Nat))) : Int) - Int.toNat x1 ≤ (1073741824 : Nat)))
 (.br 32 (Go.AM.within x0 n6)
 (.br 0 (Bool.true)
 (.ok [(.b (x2)), (.i (x3)), (.i (x4)), (.r (n5) (Go.AM.updG (Go.AM.updG (Go.AM.updG (Go.AM.updG (Go.AM.updG (Go.AM.updG (Go.AM.updG (Go.AM.updG g5 (Int.toNat x0) (0 : Nat) (rsS (g5 (Int.toNat x0)) (h6 (Int.toNat x0)) (Int.toNat x1) (0 : Nat))) (Int.toNat x0) (1 : Nat) (rsS (g5 (Int.toNat x0)) (h6 (Int.toNat x0)) (Int.toNat x1) (1 : Nat))) (Int.toNat x0) (2 : Nat) (rsS (g5 (Int.toNat x0)) (h6 (Int.toNat x0)) (Int.toNat x1) (2 : Nat))) (Int.toNat x0) (3 : Nat) (rsS (g5 (Int.toNat x0)) (h6 (Int.toNat x0)) (Int.toNat x1) (3 : Nat))) (Int.toNat x0) (4 : Nat) (rsS (g5 (Int.toNat x0)) (h6 (Int.toNat x0)) (Int.toNat x1) (4 : Nat))) (Int.toNat x0) (5 : Nat) (rsS (g5 (Int.toNat x0)) (h6 (Int.toNat x0)) (Int.toNat x1) (5 : Nat))) (Int.toNat x0) (6 : Nat) (rsS (g5 (Int.toNat x0)) (h6 (Int.toNat x0)) (Int.toNat x1) (6 : Nat))) (Int.toNat x0) (7 : Nat) (rsS (g5 (Int.toNat x0)) (h6 (Int.toNat x0)) (Int.toNat x1) (7 : Nat)))), (.q (n6) (Go.AM.updG g6 (Int.toNat x0) (0 : Nat) (↑(Int.toNat (↑(Int.toNat (g6 (Int.toNat x0) (0 : Nat))) : Int) - Int.toNat x1) : Int)) ((0 : Nat)) ((10 : Nat)) (Go.AM.putM h6 (Int.toNat x0) (10 : Nat) fun (j c : Nat) => h6 (Int.toNat x0) ((Int.toNat x1 + j) * (10 : Nat) + c)))])
 (.no))
 (.no))
 (.no))
 (.no))
 (.no))
 (.no))
 (.no)
noncomputable def y_rsure : Nat → Option Nat := (syOf3 [15, 27, 30, 31, 32] [] [])
noncomputable def TL_rsure (l : List At) : Tr (List At) := T_rsure (aI l 0) (aI l 1) (aB l 2) (aI l 3) (aI l 4) (aRn l 5) (aRg l 5) (aRn l 6) (aRg l 6) (aMh l 6 0 10)
theorem e_rsure (l : List At) : (call Try.prog Γ_RS1 y_rsure noLoops 100 Try.f46 (mkV ish_rsure l) (mkH ish_rsure l)).bind (leafO 4 osh_rsure) = TL_rsure l := by kernel_rfl
end Go.Proofs.Ytgmhggipaopoiaa.G
end

/-
  The reference's sure, in plain words.
-/
section
namespace Go.Proofs.Ytgmhggipaopoiaa.G
open Go Go.AM Go.Proofs

def RMem.suM (y : RMem) (i m : Int) : RMem := y.wit (updR y.S i.toNat (rsS (y.S i.toNat) (y.L i.toNat) m.toNat)) (updG y.G i.toNat 0 (y.G i.toNat 0 - m)) (updR y.L i.toNat (rsL (y.L i.toNat) m.toNat))

noncomputable def F2_rsure (l : List At) : Tr (List At) := .br 0 (pdec ((mmr l 2).hasOk (aI l 0) (aI l 1))) (.ok ((mmr l 2).suM (aI l 0) (aI l 1)).ats) .no

theorem updG8 (g : Nat → Nat → Int) (i : Nat) (w : Nat → Int) (hw : ∀ c, 8 ≤ c → w c = g i c) : updG (updG (updG (updG (updG (updG (updG (updG g i 0 (w 0)) i 1 (w 1)) i 2 (w 2)) i 3 (w 3)) i 4 (w 4)) i 5 (w 5)) i 6 (w 6)) i 7 (w 7) = updR g i w := by
  funext j c
  unfold updG updR
  by_cases h : j = i
  · subst h
    rw [if_pos rfl]
    match c with
    | 0 | 1 | 2 | 3 | 4 | 5 | 6 | 7 => simp
    | c + 8 =>
      rw [if_neg (by omega), if_neg (by omega), if_neg (by omega), if_neg (by omega), if_neg (by omega), if_neg (by omega), if_neg (by omega), if_neg (by omega)]
      rw [if_pos rfl]
      exact (hw (c + 8) (by omega)).symm
  · simp [h]

theorem t_rsure (y : RMem) (i m : Int) (h : y.hasOk i m) : (T_rsure i m y.off y.left y.count y.n y.S y.k y.G y.L).sat fun r => AtsEq r (y.suM i m).ats := by
  obtain ⟨h0, ⟨h1, h2⟩, h3, h4, h5, h6, h7⟩ := id h
  have e1 : ((y.G i.toNat 0).toNat : Int) = y.G i.toNat 0 := Int.toNat_of_nonneg h5
  have e2 : (((y.G i.toNat 0).toNat - m.toNat : Nat) : Int) = y.G i.toNat 0 - m := by omega
  unfold T_rsure
  simp only [e1]
  refine brT (pdec_yes h) (brT (by simp [within]; omega) (brT (by simp [within]; omega) (brT (by simp; omega) (brT (by simp; omega) (brT (by simp [within]; omega) (brT rfl (Tr.sat_ok.2 ?_)))))))
  rw [e2, updG8 y.S i.toNat (rsS (y.S i.toNat) (y.L i.toNat) m.toNat) (fun c hc => by unfold rsS; rw [if_neg (by omega)])]
  refine atsEq_cons (AtEq.refl _) (atsEq_cons (AtEq.refl _) (atsEq_cons (AtEq.refl _) (atsEq_cons (AtEq.refl _) (atsEq_cons (atEq_qe rfl ?_) atsEq_nil))))
  funext j k
  show putM y.L i.toNat 10 (fun j c => y.L i.toNat ((m.toNat + j) * 10 + c)) j k = updR y.L i.toNat (rsL (y.L i.toNat) m.toNat) j k
  unfold putM updR rsL
  by_cases hj : j = i.toNat
  · rw [if_pos hj, if_pos hj]
    exact congrArg (y.L i.toNat) (by omega)
  · rw [if_neg hj, if_neg hj]

theorem s2_rsure : SpecF Try.prog 46 (.eff (locF ish_rsure osh_rsure F2_rsure)) :=
  spec_loc (sy := y_rsure) (fuel := 100) (Lp := noLoops) o_RS1 mixed ⟨Try.func46, by kernel_rfl, by kernel_rfl⟩ ish_rsure osh_rsure (noLoops_ok _) (hT_of e_rsure fun l r h => by
    obtain ⟨h1, h⟩ := guard_val h
    have := val_ok h
    subst this
    exact t_rsure (mmr l 2) _ _ (of_pdec h1))
noncomputable def Γ_RS2 : Specs := upd Γ_RS1 46 (.eff (locF ish_rsure osh_rsure F2_rsure))
theorem o_RS2 : SpecOK Try.prog Γ_RS2 := SpecOK.upd o_RS1 s2_rsure
end Go.Proofs.Ytgmhggipaopoiaa.G
end

/-
  What functions of the seat compute, printed by a program from the explorer.
-/
section
namespace Go.Proofs.Ytgmhggipaopoiaa.G
open Go Go.AM Go.Proofs
/-! ### rload -/

noncomputable def ish_rload : FSh := ⟨[.v false [.p 0 0], .v false [.k (.n .i64)]], [.roc [.sw 1 8, .sw 2 1, .k .b, .k (.n .i64), .k (.n .i64)], .rows [.n .u64, .n .u64, .n .u64, .n .u64, .n .u64, .n .u64, .n .u64, .n .u64] false, .nrows [.n .i64] 0 [.n .i64, .n .u64, .b, .b, .b, .b, .b, .b, .b, .b] 3 false false, .no]⟩
noncomputable def osh_rload : FSh := ⟨[.tup [(true, [.k (.n .u64), .k (.n .u64), .k (.n .u64), .k (.n .u64), .k (.n .u64), .k (.n .u64), .k (.n .u64), .k (.n .u64)]), (false, [.k (.n .i64)])]], [.no, .no, .no, .no]⟩
noncomputable def T_rload (x0 : Int) (x1 : Bool) (x2 : Int) (x3 : Int) (n4 : Nat) (g4 : Nat → Nat → Int) (n5 : Nat) (g5 : Nat → Nat → Int) (h5 : Nat → Nat → Int) : Tr (List At) :=
 .br 9 (!RMem.is { n := n4, S := g4, k := n5, G := g5, L := h5, off := x1, left := x2, count := x3 } x0)
 (.ok [(.i ((0 : Int))), (.i ((0 : Int))), (.i ((0 : Int))), (.i ((0 : Int))), (.i ((0 : Int))), (.i ((0 : Int))), (.i ((0 : Int))), (.i ((0 : Int))), (.i ((1 : Int)))])
 (.br 14 (x1)
 (.ok [(.i ((0 : Int))), (.i ((0 : Int))), (.i ((0 : Int))), (.i ((0 : Int))), (.i ((0 : Int))), (.i ((0 : Int))), (.i ((0 : Int))), (.i ((0 : Int))), (.i ((4 : Int)))])
 (.br 23 (Go.AM.within x0 n5)
 (.br 0 (pdec (RMem.hasOk { n := n4, S := g4, k := n5, G := g5, L := h5, off := x1, left := x2, count := x3 } x0 (↑(Int.toNat (g5 (Int.toNat x0) (0 : Nat))) : Int)))
 (.ok [(.i (rsS (g4 (Int.toNat x0)) (h5 (Int.toNat x0)) (Int.toNat (↑(Int.toNat (g5 (Int.toNat x0) (0 : Nat))) : Int)) (0 : Nat))), (.i (rsS (g4 (Int.toNat x0)) (h5 (Int.toNat x0)) (Int.toNat (↑(Int.toNat (g5 (Int.toNat x0) (0 : Nat))) : Int)) (1 : Nat))), (.i (rsS (g4 (Int.toNat x0)) (h5 (Int.toNat x0)) (Int.toNat (↑(Int.toNat (g5 (Int.toNat x0) (0 : Nat))) : Int)) (2 : Nat))), (.i (rsS (g4 (Int.toNat x0)) (h5 (Int.toNat x0)) (Int.toNat (↑(Int.toNat (g5 (Int.toNat x0) (0 : Nat))) : Int)) (3 : Nat))), (.i (rsS (g4 (Int.toNat x0)) (h5 (Int.toNat x0)) (Int.toNat (↑(Int.toNat (g5 (Int.toNat x0) (0 : Nat))) : Int)) (4 : Nat))), (.i (rsS (g4 (Int.toNat x0)) (h5 (Int.toNat x0)) (Int.toNat (↑(Int.toNat (g5 (Int.toNat x0) (0 : Nat))) : Int)) (5 : Nat))), (.i (rsS (g4 (Int.toNat x0)) (h5 (Int.toNat x0)) (Int.toNat (↑(Int.toNat (g5 (Int.toNat x0) (0 : Nat))) : Int)) (6 : Nat))), (.i (rsS (g4 (Int.toNat x0)) (h5 (Int.toNat x0)) (Int.toNat (↑(Int.toNat (g5 (Int.toNat x0) (0 : Nat))) : Int)) (7 : Nat))), (.i ((0 : Int)))])
 (.no))
 (.no)))
noncomputable def y_rload : Nat → Option Nat := (syOf3 [9, 14, 23] [] [])
noncomputable def TL_rload (l : List At) : Tr (List At) := T_rload (aI l 0) (aB l 1) (aI l 2) (aI l 3) (aRn l 4) (aRg l 4) (aRn l 5) (aRg l 5) (aMh l 5 0 10)
theorem e_rload (l : List At) : (call Try.prog Γ_RS2 y_rload noLoops 100 Try.f45 (mkV ish_rload l) (mkH ish_rload l)).bind (leafO 4 osh_rload) = TL_rload l := by kernel_rfl
noncomputable def F_rload : List At → Tr (List At) := TL_rload
theorem s_rload : SpecF Try.prog 45 (.read (locR ish_rload osh_rload F_rload)) :=
  spec_read (sy := y_rload) (fuel := 100) (Lp := noLoops) o_RS2 mixed ⟨Try.func45, by kernel_rfl, by kernel_rfl⟩ ish_rload osh_rload (by kernel_rfl) (noLoops_ok _) (hT_ways e_rload)
noncomputable def Γ_rload : Specs := upd Γ_RS2 45 (.read (locR ish_rload osh_rload F_rload))
theorem o_rload : SpecOK Try.prog Γ_rload := SpecOK.upd o_RS2 s_rload

/-! ### rstore -/

noncomputable def ish_rstore : FSh := ⟨[.v false [.p 0 0], .v false [.k (.n .i64)], .v false [.k (.n .i64)], .v false [.k (.n .u64)]], [.cells [.sw 1 8, .sw 2 1, .k .b, .k (.n .i64), .k (.n .i64)], .rows [.n .u64, .n .u64, .n .u64, .n .u64, .n .u64, .n .u64, .n .u64, .n .u64] true, .nrows [.n .i64] 0 [.n .i64, .n .u64, .b, .b, .b, .b, .b, .b, .b, .b] 3 false true, .no]⟩
noncomputable def osh_rstore : FSh := ⟨[.v false [.k (.n .i64)]], [.cells [.sw 1 8, .sw 2 1, .k .b, .k (.n .i64), .k (.n .i64)], .rows [.n .u64, .n .u64, .n .u64, .n .u64, .n .u64, .n .u64, .n .u64, .n .u64] true, .nrows [.n .i64] 0 [.n .i64, .n .u64, .b, .b, .b, .b, .b, .b, .b, .b] 4 false true, .no, .no]⟩
noncomputable def T_rstore (x0 : Int) (x1 : Int) (x2 : Int) (x3 : Bool) (x4 : Int) (x5 : Int) (n6 : Nat) (g6 : Nat → Nat → Int) (n7 : Nat) (g7 : Nat → Nat → Int) (h7 : Nat → Nat → Int) : Tr (List At) :=
 .br 14 (!RMem.is { n := n6, S := g6, k := n7, G := g7, L := h7, off := x3, left := x4, count := x5 } x0)
 (.ok [(.i ((1 : Int))), (.b (x3)), (.i (x4)), (.i (x5)), (.r (n6) (g6)), (.q (n7) (g7) ((0 : Nat)) ((10 : Nat)) (h7))])
 (.br 18 (Decidable.decide (x1 < (0 : Int)))
 (.ok [(.i ((1 : Int))), (.b (x3)), (.i (x4)), (.i (x5)), (.r (n6) (g6)), (.q (n7) (g7) ((0 : Nat)) ((10 : Nat)) (h7))])
 (.br 21 (Decidable.decide (x1 > (7 : Int)))
 (.ok [(.i ((1 : Int))), (.b (x3)), (.i (x4)), (.i (x5)), (.r (n6) (g6)), (.q (n7) (g7) ((0 : Nat)) ((10 : Nat)) (h7))])
 (.br 0 (pdec (stepOk x4 x5))
 (.br 25 (rcodI x3 x4 == (0 : Int))
 (.br 37 (Go.AM.within x0 n7)
 (.br 39 (Decidable.decide (Int.toNat (g7 (Int.toNat x0) (0 : Nat)) ≤ (1073741824 : Nat)))
 (.br 44 (Decidable.decide (Int.toNat (g7 (Int.toNat x0) (0 : Nat)) + (1 : Nat) ≤ (1073741824 : Nat)))
 (.br 45 (Go.AM.within x0 n7)
 (.br 0 (Bool.true)
 (.ok [(.i (rcodI x3 x4)), (.b (rpoB x3 x4)), (.i (rleftI x3 x4)), (.i (rcntI x3 x4 x5)), (.r (n6) (g6)), (.q (n7) (Go.AM.updG g7 (Int.toNat x0) (0 : Nat) (↑(Int.toNat (g7 (Int.toNat x0) (0 : Nat)) + (1 : Nat)) : Int)) ((0 : Nat)) ((10 : Nat)) (Go.AM.putM h7 (Int.toNat x0) (10 : Nat) (Go.AM.appG (fun (j c : Nat) => h7 (Int.toNat x0) (((0 : Nat) + j) * (10 : Nat) + c)) (Int.toNat (g7 (Int.toNat x0) (0 : Nat))) (Go.AM.rowsF [[x1, x2, (0 : Int), (0 : Int), (0 : Int), (0 : Int), (0 : Int), (0 : Int), (0 : Int), (0 : Int)]]))))])
 (.no))
 (.no))
 (.no))
 (.no))
 (.no))
 (.ok [(.i (rcodI x3 x4)), (.b (rpoB x3 x4)), (.i (rleftI x3 x4)), (.i (rcntI x3 x4 x5)), (.r (n6) (g6)), (.q (n7) (g7) ((0 : Nat)) ((10 : Nat)) (h7))]))
 (.no))))
noncomputable def y_rstore : Nat → Option Nat := (syOf3 [14, 18, 21, 25, 37, 39, 44, 45] [] [])
noncomputable def TL_rstore (l : List At) : Tr (List At) := T_rstore (aI l 0) (aI l 1) (aI l 2) (aB l 3) (aI l 4) (aI l 5) (aRn l 6) (aRg l 6) (aRn l 7) (aRg l 7) (aMh l 7 0 10)
theorem e_rstore (l : List At) : (call Try.prog Γ_rload y_rstore noLoops 100 Try.f42 (mkV ish_rstore l) (mkH ish_rstore l)).bind (leafO 4 osh_rstore) = TL_rstore l := by kernel_rfl
noncomputable def F_rstore : List At → Tr (List At) := TL_rstore
theorem s_rstore : SpecF Try.prog 42 (.eff (locF ish_rstore osh_rstore F_rstore)) :=
  spec_loc (sy := y_rstore) (fuel := 100) (Lp := noLoops) o_rload mixed ⟨Try.func42, by kernel_rfl, by kernel_rfl⟩ ish_rstore osh_rstore (noLoops_ok _) (hT_ways e_rstore)
noncomputable def Γ_rstore : Specs := upd Γ_rload 42 (.eff (locF ish_rstore osh_rstore F_rstore))
theorem o_rstore : SpecOK Try.prog Γ_rstore := SpecOK.upd o_rload s_rstore

/-! ### rfuse -/

noncomputable def ish_rfuse : FSh := ⟨[.v false [.p 0 0], .v false [.k (.n .i64)]], [.cells [.sw 1 8, .sw 2 1, .k .b, .k (.n .i64), .k (.n .i64)], .rows [.n .u64, .n .u64, .n .u64, .n .u64, .n .u64, .n .u64, .n .u64, .n .u64] true, .nrows [.n .i64] 0 [.n .i64, .n .u64, .b, .b, .b, .b, .b, .b, .b, .b] 3 false true, .no]⟩
noncomputable def osh_rfuse : FSh := ⟨[.tup []], [.cells [.sw 1 8, .sw 2 1, .k .b, .k (.n .i64), .k (.n .i64)], .rows [.n .u64, .n .u64, .n .u64, .n .u64, .n .u64, .n .u64, .n .u64, .n .u64] true, .nrows [.n .i64] 0 [.n .i64, .n .u64, .b, .b, .b, .b, .b, .b, .b, .b] 3 false true, .no]⟩
noncomputable def T_rfuse (x0 : Int) (x1 : Bool) (x2 : Int) (x3 : Int) (n4 : Nat) (g4 : Nat → Nat → Int) (n5 : Nat) (g5 : Nat → Nat → Int) (h5 : Nat → Nat → Int) : Tr (List At) :=
 .ok [(.b (x1)), (.i (if (-1 : Int) > x0 then (-1 : Int) else x0)), (.i (x3)), (.r (n4) (g4)), (.q (n5) (g5) ((0 : Nat)) ((10 : Nat)) (h5))]
noncomputable def y_rfuse : Nat → Option Nat := (syOf3 [] [] [])
noncomputable def TL_rfuse (l : List At) : Tr (List At) := T_rfuse (aI l 0) (aB l 1) (aI l 2) (aI l 3) (aRn l 4) (aRg l 4) (aRn l 5) (aRg l 5) (aMh l 5 0 10)
theorem e_rfuse (l : List At) : (call Try.prog Γ_rstore y_rfuse noLoops 100 Try.f28 (mkV ish_rfuse l) (mkH ish_rfuse l)).bind (leafO 4 osh_rfuse) = TL_rfuse l := by kernel_rfl
end Go.Proofs.Ytgmhggipaopoiaa.G
end

/-
  What functions of the seat compute, printed by a program from the explorer.
-/
section
namespace Go.Proofs.Ytgmhggipaopoiaa.G
open Go Go.AM Go.Proofs
/-! ### rof -/

noncomputable def ish_rof : FSh := ⟨[.v false [.vw 0 8]], [.rows [.n .u64, .n .u64, .n .u64, .n .u64, .n .u64, .n .u64, .n .u64, .n .u64] false]⟩
noncomputable def oshs_rof : List FSh := [⟨[.tup [(false, [.p 1 0]), (false, [.k (.n .i64)])]], [.no, .cells [.sw 2 8, .sw 3 1, .k .b, .k (.n .i64), .k (.n .i64)], .rows [.n .u64, .n .u64, .n .u64, .n .u64, .n .u64, .n .u64, .n .u64, .n .u64] true, .nrows [.n .i64] 0 [.n .i64, .n .u64, .b, .b, .b, .b, .b, .b, .b, .b] 4 false true, .no]⟩, ⟨[.tup [(false, [.pnil]), (false, [.k (.n .i64)])]], [.no]⟩]
noncomputable def T_rof (n0 : Nat) (g0 : Nat → Nat → Int) : Tr (Nat × List At) :=
 .br 7 (Decidable.decide ((↑n0 : Int) < (64 : Int)))
 (.ok ((1 : Nat), [(.i ((1 : Int)))]))
 (.br 11 (Decidable.decide ((↑n0 : Int) > (1024 : Int)))
 (.ok ((1 : Nat), [(.i ((1 : Int)))]))
 (.br 14 (Decidable.decide (n0 ≤ (1073741824 : Nat)))
 (.br 17 (Decidable.decide ((0 : Int) ≤ (↑n0 : Int)) && (↑n0 : Int) == (↑n0 : Int) && Decidable.decide ((↑n0 : Int) ≤ (1073741824 : Int)))
 (.ok ((0 : Nat), [(.i ((0 : Int))), (.b (Bool.false)), (.i ((-1 : Int))), (.i ((0 : Int))), (.r (n0) (fun (j c : Nat) => g0 ((0 : Nat) + j) c)), (.q (Int.toNat (↑n0 : Int)) (fun (_ _ : Nat) => (0 : Int)) ((0 : Nat)) ((10 : Nat)) (fun (_ _ : Nat) => (0 : Int)))]))
 (.no))
 (.no)))
noncomputable def y_rof : Nat → Option Nat := (syOf3 [7, 11, 14, 17] [] [])
noncomputable def TL_rof (l : List At) : Tr (Nat × List At) := T_rof (aRn l 0) (aRg l 0)
theorem e_rof (l : List At) : (call Try.prog Γ_RS2 y_rof noLoops 100 Try.f41 (mkV ish_rof l) (mkH ish_rof l)).bind (leafOs 1 0 oshs_rof) = TL_rof l := by kernel_rfl
noncomputable def F_rof : List At → Tr (Nat × List At) := TL_rof
theorem s_rof : SpecF Try.prog 41 (.eff (locFs ish_rof oshs_rof F_rof)) :=
  spec_locs (sy := y_rof) (fuel := 100) (Lp := noLoops) o_RS2 mixed ⟨Try.func41, by kernel_rfl, by kernel_rfl⟩ ish_rof oshs_rof (noLoops_ok _) (hT_waysS e_rof)
noncomputable def Γ_rof : Specs := upd Γ_RS2 41 (.eff (locFs ish_rof oshs_rof F_rof))
theorem o_rof : SpecOK Try.prog Γ_rof := SpecOK.upd o_RS2 s_rof

/-! ### rnew -/

noncomputable def ish_rnew : FSh := ⟨[.v false [.k (.n .i64)]], []⟩
noncomputable def oshs_rnew : List FSh := [⟨[.tup [(false, [.p 0 0]), (false, [.k (.n .i64)])]], [.cells [.sw 1 8, .sw 2 1, .k .b, .k (.n .i64), .k (.n .i64)], .rows [.n .u64, .n .u64, .n .u64, .n .u64, .n .u64, .n .u64, .n .u64, .n .u64] true, .nrows [.n .i64] 0 [.n .i64, .n .u64, .b, .b, .b, .b, .b, .b, .b, .b] 3 false true, .no]⟩, ⟨[.tup [(false, [.pnil]), (false, [.k (.n .i64)])]], []⟩]
noncomputable def T_rnew (x0 : Int) : Tr (Nat × List At) :=
 .br 6 (Decidable.decide (x0 < (64 : Int)))
 (.ok ((1 : Nat), [(.i ((1 : Int)))]))
 (.br 9 (Decidable.decide (x0 > (1024 : Int)))
 (.ok ((1 : Nat), [(.i ((1 : Int)))]))
 (.br 11 (Decidable.decide ((0 : Int) ≤ x0) && x0 == x0 && Decidable.decide (x0 ≤ (1073741824 : Int)))
 (.br 7 (Decidable.decide ((↑(Int.toNat x0) : Int) < (64 : Int)))
 (.ok ((1 : Nat), [(.i ((1 : Int)))]))
 (.br 11 (Decidable.decide ((↑(Int.toNat x0) : Int) > (1024 : Int)))
 (.ok ((1 : Nat), [(.i ((1 : Int)))]))
 (.br 14 (Decidable.decide (Int.toNat x0 ≤ (1073741824 : Nat)))
 (.br 17 (Decidable.decide ((0 : Int) ≤ (↑(Int.toNat x0) : Int)) && (↑(Int.toNat x0) : Int) == (↑(Int.toNat x0) : Int) && Decidable.decide ((↑(Int.toNat x0) : Int) ≤ (1073741824 : Int)))
 (.ok ((0 : Nat), [(.i ((0 : Int))), (.b (Bool.false)), (.i ((-1 : Int))), (.i ((0 : Int))), (.r (Int.toNat x0) (fun (_ _ : Nat) => (0 : Int))), (.q (Int.toNat (↑(Int.toNat x0) : Int)) (fun (_ _ : Nat) => (0 : Int)) ((0 : Nat)) ((10 : Nat)) (fun (_ _ : Nat) => (0 : Int)))]))
 (.no))
 (.no))))
 (.no)))
noncomputable def y_rnew : Nat → Option Nat := (syOf3 [6, 9, 11, 7, 14, 17] [] [])
noncomputable def TL_rnew (l : List At) : Tr (Nat × List At) := T_rnew (aI l 0)
theorem e_rnew (l : List At) : (call Try.prog Γ_rof y_rnew noLoops 100 Try.f26 (mkV ish_rnew l) (mkH ish_rnew l)).bind (leafOs 0 0 oshs_rnew) = TL_rnew l := by kernel_rfl
end Go.Proofs.Ytgmhggipaopoiaa.G
end

/-
  What functions of the seat compute, printed by a program from the explorer.
-/
section
namespace Go.Proofs.Ytgmhggipaopoiaa.G
open Go Go.AM Go.Proofs
/-! ### the loop at 6 of rflush -/

noncomputable def lsh_rflush_6 : FSh := ⟨[.v false [.p 0 0], .v false [.k (.n .i64)], .v false [.k (.n .i64)], .any, .any, .any, .any, .v false [.k (.n .i64)], .v false [.k (.n .i64)], .any, .any, .any, .any, .any, .any, .any, .any, .any, .any, .any, .any, .any, .any, .any, .any, .any, .any, .any, .any, .any, .any, .any, .any, .any, .any, .any, .any, .any, .any, .any, .any, .any, .any, .any, .any, .any, .any, .any, .any, .any], [.cells [.sw 1 8, .sw 2 1, .k .b, .k (.n .i64), .k (.n .i64)], .rows [.n .u64, .n .u64, .n .u64, .n .u64, .n .u64, .n .u64, .n .u64, .n .u64] true, .nrows [.n .i64] 0 [.n .i64, .n .u64, .b, .b, .b, .b, .b, .b, .b, .b] 3 false true, .no]⟩
noncomputable def xsh_rflush_6_0 : FSh := ⟨[.any, .any, .any, .any, .any, .any, .any, .v false [.k (.n .i64)], .any, .any, .any, .any, .any, .any, .any, .any, .any, .any, .any, .any, .any, .any, .any, .any, .any, .any, .any, .any, .any, .any, .any, .any, .any, .any, .any, .any, .any, .any, .any, .any, .any, .any, .any, .any, .any, .any, .any, .any, .any, .any], [.cells [.sw 1 8, .sw 2 1, .k .b, .k (.n .i64), .k (.n .i64)], .rows [.n .u64, .n .u64, .n .u64, .n .u64, .n .u64, .n .u64, .n .u64, .n .u64] true, .nrows [.n .i64] 0 [.n .i64, .n .u64, .b, .b, .b, .b, .b, .b, .b, .b] 3 false true, .no]⟩
noncomputable def xs_rflush_6 : Exs := fun e => match e with
  | .normal => some lsh_rflush_6
  | .exit n => (match Nat.beq n 0 with | true => some xsh_rflush_6_0 | false => none)
  | .ret => none
noncomputable def B_rflush_6 (x0 : Int) (x1 : Int) (x2 : Int) (x3 : Int) (x4 : Bool) (x5 : Int) (x6 : Int) (n7 : Nat) (g7 : Nat → Nat → Int) (n8 : Nat) (g8 : Nat → Nat → Int) (h8 : Nat → Nat → Int) : Tr (Ex × List At) :=
 .br 31 (Go.AM.within x1 n8)
 (.br 34 (Decidable.decide (x3 < (↑(Int.toNat (g8 (Int.toNat x1) (0 : Nat))) : Int)))
 (.br 42 (Go.AM.within x1 n8)
 (.br 46 (Go.AM.within x3 (Int.toNat (g8 (Int.toNat x1) (0 : Nat))))
 (.br 200048 (Go.AM.within x0 (8 : Nat))
 (.ok (.normal, [(.i (x0)), (.i (x1)), (.i (x2)), (.i (Go.IntKind.wrap Go.IntKind.i64 (x3 + (1 : Int)))), (.b (x4)), (.i (x5)), (.i (x6)), (.r (n7) (g7)), (.q (n8) (g8) ((0 : Nat)) ((10 : Nat)) (Go.AM.updG h8 (Int.toNat x1) (Int.toNat x3 * (10 : Nat) + ((2 : Nat) + Int.toNat x0 * (1 : Nat))) (1 : Int)))]))
 (.no))
 (.no))
 (.no))
 (.ok (.exit 0, [(.i (x2)), (.b (x4)), (.i (x5)), (.i (x6)), (.r (n7) (g7)), (.q (n8) (g8) ((0 : Nat)) ((10 : Nat)) (h8))])))
 (.no)
noncomputable def y_rflush_6 : Nat → Option Nat := (syOf3 [31, 34, 42, 46] [] [48])
noncomputable def BL_rflush_6 (l : List At) : Tr (Ex × List At) := B_rflush_6 (aI l 0) (aI l 1) (aI l 2) (aI l 3) (aB l 4) (aI l 5) (aI l 6) (aRn l 7) (aRg l 7) (aRn l 8) (aRg l 8) (aMh l 8 0 10)
theorem eB_rflush_6 (l : List At) : (exec Try.prog Γ_RS2 y_rflush_6 noLoops 100 (loopAt Try.f43 6) ⟨mkV lsh_rflush_6 l, mkH lsh_rflush_6 l⟩).bind (leafL 4 xs_rflush_6) = BL_rflush_6 l := by kernel_rfl
/- by hand: O_rflush_6 (x0 : Int) (x1 : Int) (x2 : Int) (x3 : Int) (x4 : Bool) (x5 : Int) (x6 : Int) (n7 : Nat) (g7 : Nat → Nat → Int) (n8 : Nat) (g8 : Nat → Nat → Int) (h8 : Nat → Nat → Int) : Tr (Ex × List At); OL_rflush_6 (l) := O_rflush_6 (aI l 0) (aI l 1) (aI l 2) (aI l 3) (aB l 4) (aI l 5) (aI l 6) (aRn l 7) (aRg l 7) (aRn l 8) (aRg l 8) (aMh l 8 0 10); μ_rflush_6 : List At → Nat; rd_rflush_6 : ∀ l r, (OL_rflush_6 l).val = some r → RoundA BL_rflush_6 OL_rflush_6 μ_rflush_6 l r -/

end Go.Proofs.Ytgmhggipaopoiaa.G
end

/-
  The loop of the reference's Flush.
-/
section
namespace Go.Proofs.Ytgmhggipaopoiaa.G
open Go Go.AM Go.Proofs

def rflF (hr : Nat → Int) (core a m : Nat) : Nat → Int := fun k => if a ≤ k / 10 ∧ k / 10 < a + m ∧ k % 10 = 2 + core then 1 else hr k
theorem rflF_end (hr : Nat → Int) (core a : Nat) : rflF hr core a 0 = hr := funext fun _ => if_neg (by omega)
theorem rflF_step (hr : Nat → Int) (core a m : Nat) (hc : core < 8) : rflF (fun k => if k = a * 10 + (2 + core) then 1 else hr k) core (a + 1) m = rflF hr core a (m + 1) := by
  funext k
  unfold rflF
  by_cases h : a + 1 ≤ k / 10 ∧ k / 10 < a + 1 + m ∧ k % 10 = 2 + core
  · rw [if_pos h, if_pos (by omega)]
  · rw [if_neg h]
    show (if k = a * 10 + (2 + core) then 1 else hr k) = _
    by_cases h2 : k = a * 10 + (2 + core)
    · rw [if_pos h2, if_pos (by omega)]
    · rw [if_neg h2, if_neg (by omega)]
theorem rflF_all (hr : Nat → Int) (core m : Nat) : rflF hr core 0 m = rflR hr m core := by
  funext k
  unfold rflF rflR
  by_cases h : k / 10 < m ∧ k % 10 = 2 + core
  · rw [if_pos h, if_pos (by omega)]
  · rw [if_neg h, if_neg (by omega)]

def rpF (x0 x1 x3 : Int) (n : Nat) (g : Nat → Nat → Int) : Prop := (0 ≤ x0 ∧ x0 < 8) ∧ (0 ≤ x1 ∧ x1 < n) ∧ 0 ≤ x3 ∧ x3 ≤ g x1.toNat 0 ∧ g x1.toNat 0 ≤ 1000000

noncomputable def O_rflush_6 (x0 x1 x2 x3 : Int) (x4 : Bool) (x5 x6 : Int) (n7 : Nat) (g7 : Nat → Nat → Int) (n8 : Nat) (g8 h8 : Nat → Nat → Int) : Tr (Ex × List At) :=
  .br 0 (pdec (rpF x0 x1 x3 n8 g8)) (.ok (.exit 0, [.i x2, .b x4, .i x5, .i x6, .r n7 g7, .q n8 g8 0 10 (updR h8 x1.toNat (rflF (h8 x1.toNat) x0.toNat x3.toNat (g8 x1.toNat 0 - x3).toNat))])) .no
noncomputable def OL_rflush_6 (l : List At) : Tr (Ex × List At) := O_rflush_6 (aI l 0) (aI l 1) (aI l 2) (aI l 3) (aB l 4) (aI l 5) (aI l 6) (aRn l 7) (aRg l 7) (aRn l 8) (aRg l 8) (aMh l 8 0 10)
def μ_rflush_6 (l : List At) : Nat := (aRg l 8 (aI l 1).toNat 0 - aI l 3).toNat

theorem rd_rflush_6 : ∀ l r, (OL_rflush_6 l).val = some r → RoundS BL_rflush_6 OL_rflush_6 μ_rflush_6 l r := by
  intro l r h
  obtain ⟨hc, h⟩ := guard_val h
  obtain ⟨⟨c0, c1⟩, ⟨c2, c3⟩, c4, c5, c6⟩ := of_pdec hc
  unfold RoundS BL_rflush_6 B_rflush_6
  generalize hx0 : aI l 0 = x0 at *
  generalize hx1 : aI l 1 = x1 at *
  generalize hx3 : aI l 3 = x3 at *
  generalize hn : aRn l 8 = n at *
  generalize hg : aRg l 8 = g at *
  generalize hh : aMh l 8 0 10 = hm at *
  refine brW (fun _ => ?_) (fun hh => by exfalso; omega)
  rw [Int.toNat_of_nonneg (a := g x1.toNat 0) (by omega)]
  refine brD (fun h1 => ?_) (fun h1 => ?_)
  · have hw : IntKind.i64.wrap (x3 + 1) = x3 + 1 := wrap_i64 (by omega) (by omega)
    refine brW (fun _ => brT (by simp [within]; omega) (brT (by simp [within]; omega) ?_)) (fun hh => by exfalso; omega)
    have hμ : (g x1.toNat 0 - (x3 + 1)).toNat < μ_rflush_6 l := by unfold μ_rflush_6; rw [hg, hx1, hx3]; omega
    have hq : rpF x0 x1 (x3 + 1) n g := ⟨⟨c0, c1⟩, ⟨c2, c3⟩, by omega, by omega, c6⟩
    have e1 : (g x1.toNat 0 - x3).toNat = (g x1.toNat 0 - (x3 + 1)).toNat + 1 := by omega
    have e3 : (x3 + 1).toNat = x3.toNat + 1 := by omega
    rw [e1, ← rflF_step _ _ _ _ (by omega), ← e3] at h
    rw [hw, Nat.mul_one, updG_row]
    generalize hh' : updR hm x1.toNat (fun c' => if c' = x3.toNat * 10 + (2 + x0.toNat) then 1 else hm x1.toNat c') = h' at *
    have e4 : h' x1.toNat = fun k => if k = x3.toNat * 10 + (2 + x0.toNat) then 1 else hm x1.toNat k := by rw [← hh', updR_self]
    have e5 : ∀ r, updR hm x1.toNat r = updR h' x1.toNat r := fun r => by rw [← hh', updR_updR]
    rw [← e4, e5] at h
    exact on_ _ r (AtsEq.refl _) hμ ((br_t (g := 0) (pdec_yes hq)).trans h) rfl (AtsEq.refl _)
  · have e : (g x1.toNat 0 - x3).toNat = 0 := by omega
    rw [e, rflF_end, updR_id] at h
    have hr := val_ok h
    subst hr
    exact out_ (by simp) rfl (AtsEq.refl _)
end Go.Proofs.Ytgmhggipaopoiaa.G
end

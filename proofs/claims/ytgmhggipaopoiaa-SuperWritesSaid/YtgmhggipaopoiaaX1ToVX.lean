/-
  What functions of the seat compute, printed by a program from the explorer.
-/
import Derived.Test.YtgmhggipaopoiaaRvG10ToRvPR
import Derived.KernelRfl
import Derived.Test.YtgmhggipaopoiaaAn8ToAnR
import Derived.Test.YtgmhggipaopoiaaG1ToNvO7
import Derived.Test.YtgmhggipaopoiaaCrc1ToCrc2
section
namespace Go.Proofs.Ytgmhggipaopoiaa.G
open Go Go.AM Go.Proofs
/-! ### rFind -/

noncomputable def ish_rFind : FSh := ⟨[.v false [.p 0 0]], [.roc [.sw 1 8, .sw 2 1, .k .b, .k (.n .i64), .k (.n .i64)], .rows [.n .u64, .n .u64, .n .u64, .n .u64, .n .u64, .n .u64, .n .u64, .n .u64] false, .nrows [.n .i64] 0 [.n .i64, .n .u64, .b, .b, .b, .b, .b, .b, .b, .b] 3 false false, .no]⟩
noncomputable def osh_rFind : FSh := ⟨[.tup [(true, [.k (.n .i64), .k (.n .i64), .k (.n .i64), .k (.n .i64)]), (false, [.k (.n .i64)]), (false, [.k (.n .i64)])]], [.no, .no, .no, .no]⟩
noncomputable def rFind_c0 (x0 : Bool) (x1 : Int) (x2 : Int) (n3 : Nat) (g3 : Nat → Nat → Int) (n4 : Nat) (g4 : Nat → Nat → Int) (h4 : Nat → Nat → Int) : Int := r_rBest_0 (RMem.ldW { n := n3, S := g3, k := n4, G := g4, L := h4, off := x0, left := x1, count := x2 } (0 : Int) (0 : Nat)) (RMem.ldW { n := n3, S := g3, k := n4, G := g4, L := h4, off := x0, left := x1, count := x2 } (0 : Int) (1 : Nat)) (RMem.ldW { n := n3, S := g3, k := n4, G := g4, L := h4, off := x0, left := x1, count := x2 } (0 : Int) (2 : Nat)) (RMem.ldW { n := n3, S := g3, k := n4, G := g4, L := h4, off := x0, left := x1, count := x2 } (0 : Int) (3 : Nat)) (RMem.ldW { n := n3, S := g3, k := n4, G := g4, L := h4, off := x0, left := x1, count := x2 } (0 : Int) (4 : Nat)) (RMem.ldW { n := n3, S := g3, k := n4, G := g4, L := h4, off := x0, left := x1, count := x2 } (0 : Int) (5 : Nat)) (RMem.ldW { n := n3, S := g3, k := n4, G := g4, L := h4, off := x0, left := x1, count := x2 } (0 : Int) (6 : Nat)) (RMem.ldW { n := n3, S := g3, k := n4, G := g4, L := h4, off := x0, left := x1, count := x2 } (0 : Int) (7 : Nat)) (RMem.ldW { n := n3, S := g3, k := n4, G := g4, L := h4, off := x0, left := x1, count := x2 } (1 : Int) (0 : Nat)) (RMem.ldW { n := n3, S := g3, k := n4, G := g4, L := h4, off := x0, left := x1, count := x2 } (1 : Int) (1 : Nat)) (RMem.ldW { n := n3, S := g3, k := n4, G := g4, L := h4, off := x0, left := x1, count := x2 } (1 : Int) (2 : Nat)) (RMem.ldW { n := n3, S := g3, k := n4, G := g4, L := h4, off := x0, left := x1, count := x2 } (1 : Int) (3 : Nat)) (RMem.ldW { n := n3, S := g3, k := n4, G := g4, L := h4, off := x0, left := x1, count := x2 } (1 : Int) (4 : Nat)) (RMem.ldW { n := n3, S := g3, k := n4, G := g4, L := h4, off := x0, left := x1, count := x2 } (1 : Int) (5 : Nat)) (RMem.ldW { n := n3, S := g3, k := n4, G := g4, L := h4, off := x0, left := x1, count := x2 } (1 : Int) (6 : Nat)) (RMem.ldW { n := n3, S := g3, k := n4, G := g4, L := h4, off := x0, left := x1, count := x2 } (1 : Int) (7 : Nat))
noncomputable def rFind_c1 (x0 : Bool) (x1 : Int) (x2 : Int) (n3 : Nat) (g3 : Nat → Nat → Int) (n4 : Nat) (g4 : Nat → Nat → Int) (h4 : Nat → Nat → Int) : Int := r_rBest_1 (RMem.ldW { n := n3, S := g3, k := n4, G := g4, L := h4, off := x0, left := x1, count := x2 } (0 : Int) (0 : Nat)) (RMem.ldW { n := n3, S := g3, k := n4, G := g4, L := h4, off := x0, left := x1, count := x2 } (0 : Int) (1 : Nat)) (RMem.ldW { n := n3, S := g3, k := n4, G := g4, L := h4, off := x0, left := x1, count := x2 } (0 : Int) (2 : Nat)) (RMem.ldW { n := n3, S := g3, k := n4, G := g4, L := h4, off := x0, left := x1, count := x2 } (0 : Int) (3 : Nat)) (RMem.ldW { n := n3, S := g3, k := n4, G := g4, L := h4, off := x0, left := x1, count := x2 } (0 : Int) (4 : Nat)) (RMem.ldW { n := n3, S := g3, k := n4, G := g4, L := h4, off := x0, left := x1, count := x2 } (0 : Int) (5 : Nat)) (RMem.ldW { n := n3, S := g3, k := n4, G := g4, L := h4, off := x0, left := x1, count := x2 } (0 : Int) (6 : Nat)) (RMem.ldW { n := n3, S := g3, k := n4, G := g4, L := h4, off := x0, left := x1, count := x2 } (0 : Int) (7 : Nat)) (RMem.ldW { n := n3, S := g3, k := n4, G := g4, L := h4, off := x0, left := x1, count := x2 } (1 : Int) (0 : Nat)) (RMem.ldW { n := n3, S := g3, k := n4, G := g4, L := h4, off := x0, left := x1, count := x2 } (1 : Int) (1 : Nat)) (RMem.ldW { n := n3, S := g3, k := n4, G := g4, L := h4, off := x0, left := x1, count := x2 } (1 : Int) (2 : Nat)) (RMem.ldW { n := n3, S := g3, k := n4, G := g4, L := h4, off := x0, left := x1, count := x2 } (1 : Int) (3 : Nat)) (RMem.ldW { n := n3, S := g3, k := n4, G := g4, L := h4, off := x0, left := x1, count := x2 } (1 : Int) (4 : Nat)) (RMem.ldW { n := n3, S := g3, k := n4, G := g4, L := h4, off := x0, left := x1, count := x2 } (1 : Int) (5 : Nat)) (RMem.ldW { n := n3, S := g3, k := n4, G := g4, L := h4, off := x0, left := x1, count := x2 } (1 : Int) (6 : Nat)) (RMem.ldW { n := n3, S := g3, k := n4, G := g4, L := h4, off := x0, left := x1, count := x2 } (1 : Int) (7 : Nat))
noncomputable def rFind_c2 (x0 : Bool) (x1 : Int) (x2 : Int) (n3 : Nat) (g3 : Nat → Nat → Int) (n4 : Nat) (g4 : Nat → Nat → Int) (h4 : Nat → Nat → Int) : Int := r_rBest_2 (RMem.ldW { n := n3, S := g3, k := n4, G := g4, L := h4, off := x0, left := x1, count := x2 } (0 : Int) (0 : Nat)) (RMem.ldW { n := n3, S := g3, k := n4, G := g4, L := h4, off := x0, left := x1, count := x2 } (0 : Int) (1 : Nat)) (RMem.ldW { n := n3, S := g3, k := n4, G := g4, L := h4, off := x0, left := x1, count := x2 } (0 : Int) (2 : Nat)) (RMem.ldW { n := n3, S := g3, k := n4, G := g4, L := h4, off := x0, left := x1, count := x2 } (0 : Int) (3 : Nat)) (RMem.ldW { n := n3, S := g3, k := n4, G := g4, L := h4, off := x0, left := x1, count := x2 } (0 : Int) (4 : Nat)) (RMem.ldW { n := n3, S := g3, k := n4, G := g4, L := h4, off := x0, left := x1, count := x2 } (0 : Int) (5 : Nat)) (RMem.ldW { n := n3, S := g3, k := n4, G := g4, L := h4, off := x0, left := x1, count := x2 } (0 : Int) (6 : Nat)) (RMem.ldW { n := n3, S := g3, k := n4, G := g4, L := h4, off := x0, left := x1, count := x2 } (0 : Int) (7 : Nat)) (RMem.ldW { n := n3, S := g3, k := n4, G := g4, L := h4, off := x0, left := x1, count := x2 } (1 : Int) (0 : Nat)) (RMem.ldW { n := n3, S := g3, k := n4, G := g4, L := h4, off := x0, left := x1, count := x2 } (1 : Int) (1 : Nat)) (RMem.ldW { n := n3, S := g3, k := n4, G := g4, L := h4, off := x0, left := x1, count := x2 } (1 : Int) (2 : Nat)) (RMem.ldW { n := n3, S := g3, k := n4, G := g4, L := h4, off := x0, left := x1, count := x2 } (1 : Int) (3 : Nat)) (RMem.ldW { n := n3, S := g3, k := n4, G := g4, L := h4, off := x0, left := x1, count := x2 } (1 : Int) (4 : Nat)) (RMem.ldW { n := n3, S := g3, k := n4, G := g4, L := h4, off := x0, left := x1, count := x2 } (1 : Int) (5 : Nat)) (RMem.ldW { n := n3, S := g3, k := n4, G := g4, L := h4, off := x0, left := x1, count := x2 } (1 : Int) (6 : Nat)) (RMem.ldW { n := n3, S := g3, k := n4, G := g4, L := h4, off := x0, left := x1, count := x2 } (1 : Int) (7 : Nat))
noncomputable def rFind_c3 (x0 : Bool) (x1 : Int) (x2 : Int) (n3 : Nat) (g3 : Nat → Nat → Int) (n4 : Nat) (g4 : Nat → Nat → Int) (h4 : Nat → Nat → Int) : Int := r_rBest_3 (RMem.ldW { n := n3, S := g3, k := n4, G := g4, L := h4, off := x0, left := x1, count := x2 } (0 : Int) (0 : Nat)) (RMem.ldW { n := n3, S := g3, k := n4, G := g4, L := h4, off := x0, left := x1, count := x2 } (0 : Int) (1 : Nat)) (RMem.ldW { n := n3, S := g3, k := n4, G := g4, L := h4, off := x0, left := x1, count := x2 } (0 : Int) (2 : Nat)) (RMem.ldW { n := n3, S := g3, k := n4, G := g4, L := h4, off := x0, left := x1, count := x2 } (0 : Int) (3 : Nat)) (RMem.ldW { n := n3, S := g3, k := n4, G := g4, L := h4, off := x0, left := x1, count := x2 } (0 : Int) (4 : Nat)) (RMem.ldW { n := n3, S := g3, k := n4, G := g4, L := h4, off := x0, left := x1, count := x2 } (0 : Int) (5 : Nat)) (RMem.ldW { n := n3, S := g3, k := n4, G := g4, L := h4, off := x0, left := x1, count := x2 } (0 : Int) (6 : Nat)) (RMem.ldW { n := n3, S := g3, k := n4, G := g4, L := h4, off := x0, left := x1, count := x2 } (0 : Int) (7 : Nat)) (RMem.ldW { n := n3, S := g3, k := n4, G := g4, L := h4, off := x0, left := x1, count := x2 } (1 : Int) (0 : Nat)) (RMem.ldW { n := n3, S := g3, k := n4, G := g4, L := h4, off := x0, left := x1, count := x2 } (1 : Int) (1 : Nat)) (RMem.ldW { n := n3, S := g3, k := n4, G := g4, L := h4, off := x0, left := x1, count := x2 } (1 : Int) (2 : Nat)) (RMem.ldW { n := n3, S := g3, k := n4, G := g4, L := h4, off := x0, left := x1, count := x2 } (1 : Int) (3 : Nat)) (RMem.ldW { n := n3, S := g3, k := n4, G := g4, L := h4, off := x0, left := x1, count := x2 } (1 : Int) (4 : Nat)) (RMem.ldW { n := n3, S := g3, k := n4, G := g4, L := h4, off := x0, left := x1, count := x2 } (1 : Int) (5 : Nat)) (RMem.ldW { n := n3, S := g3, k := n4, G := g4, L := h4, off := x0, left := x1, count := x2 } (1 : Int) (6 : Nat)) (RMem.ldW { n := n3, S := g3, k := n4, G := g4, L := h4, off := x0, left := x1, count := x2 } (1 : Int) (7 : Nat))
noncomputable def rFind_c4 (x0 : Bool) (x1 : Int) (x2 : Int) (n3 : Nat) (g3 : Nat → Nat → Int) (n4 : Nat) (g4 : Nat → Nat → Int) (h4 : Nat → Nat → Int) : Int := r_rBest_4 (RMem.ldW { n := n3, S := g3, k := n4, G := g4, L := h4, off := x0, left := x1, count := x2 } (0 : Int) (0 : Nat)) (RMem.ldW { n := n3, S := g3, k := n4, G := g4, L := h4, off := x0, left := x1, count := x2 } (0 : Int) (1 : Nat)) (RMem.ldW { n := n3, S := g3, k := n4, G := g4, L := h4, off := x0, left := x1, count := x2 } (0 : Int) (2 : Nat)) (RMem.ldW { n := n3, S := g3, k := n4, G := g4, L := h4, off := x0, left := x1, count := x2 } (0 : Int) (3 : Nat)) (RMem.ldW { n := n3, S := g3, k := n4, G := g4, L := h4, off := x0, left := x1, count := x2 } (0 : Int) (4 : Nat)) (RMem.ldW { n := n3, S := g3, k := n4, G := g4, L := h4, off := x0, left := x1, count := x2 } (0 : Int) (5 : Nat)) (RMem.ldW { n := n3, S := g3, k := n4, G := g4, L := h4, off := x0, left := x1, count := x2 } (0 : Int) (6 : Nat)) (RMem.ldW { n := n3, S := g3, k := n4, G := g4, L := h4, off := x0, left := x1, count := x2 } (0 : Int) (7 : Nat)) (RMem.ldW { n := n3, S := g3, k := n4, G := g4, L := h4, off := x0, left := x1, count := x2 } (1 : Int) (0 : Nat)) (RMem.ldW { n := n3, S := g3, k := n4, G := g4, L := h4, off := x0, left := x1, count := x2 } (1 : Int) (1 : Nat)) (RMem.ldW { n := n3, S := g3, k := n4, G := g4, L := h4, off := x0, left := x1, count := x2 } (1 : Int) (2 : Nat)) (RMem.ldW { n := n3, S := g3, k := n4, G := g4, L := h4, off := x0, left := x1, count := x2 } (1 : Int) (3 : Nat)) (RMem.ldW { n := n3, S := g3, k := n4, G := g4, L := h4, off := x0, left := x1, count := x2 } (1 : Int) (4 : Nat)) (RMem.ldW { n := n3, S := g3, k := n4, G := g4, L := h4, off := x0, left := x1, count := x2 } (1 : Int) (5 : Nat)) (RMem.ldW { n := n3, S := g3, k := n4, G := g4, L := h4, off := x0, left := x1, count := x2 } (1 : Int) (6 : Nat)) (RMem.ldW { n := n3, S := g3, k := n4, G := g4, L := h4, off := x0, left := x1, count := x2 } (1 : Int) (7 : Nat))
noncomputable def rFind_c5 (x0 : Bool) (x1 : Int) (x2 : Int) (n3 : Nat) (g3 : Nat → Nat → Int) (n4 : Nat) (g4 : Nat → Nat → Int) (h4 : Nat → Nat → Int) : Bool := r_rBest_5 (RMem.ldW { n := n3, S := g3, k := n4, G := g4, L := h4, off := x0, left := x1, count := x2 } (0 : Int) (0 : Nat)) (RMem.ldW { n := n3, S := g3, k := n4, G := g4, L := h4, off := x0, left := x1, count := x2 } (0 : Int) (1 : Nat)) (RMem.ldW { n := n3, S := g3, k := n4, G := g4, L := h4, off := x0, left := x1, count := x2 } (0 : Int) (2 : Nat)) (RMem.ldW { n := n3, S := g3, k := n4, G := g4, L := h4, off := x0, left := x1, count := x2 } (0 : Int) (3 : Nat)) (RMem.ldW { n := n3, S := g3, k := n4, G := g4, L := h4, off := x0, left := x1, count := x2 } (0 : Int) (4 : Nat)) (RMem.ldW { n := n3, S := g3, k := n4, G := g4, L := h4, off := x0, left := x1, count := x2 } (0 : Int) (5 : Nat)) (RMem.ldW { n := n3, S := g3, k := n4, G := g4, L := h4, off := x0, left := x1, count := x2 } (0 : Int) (6 : Nat)) (RMem.ldW { n := n3, S := g3, k := n4, G := g4, L := h4, off := x0, left := x1, count := x2 } (0 : Int) (7 : Nat)) (RMem.ldW { n := n3, S := g3, k := n4, G := g4, L := h4, off := x0, left := x1, count := x2 } (1 : Int) (0 : Nat)) (RMem.ldW { n := n3, S := g3, k := n4, G := g4, L := h4, off := x0, left := x1, count := x2 } (1 : Int) (1 : Nat)) (RMem.ldW { n := n3, S := g3, k := n4, G := g4, L := h4, off := x0, left := x1, count := x2 } (1 : Int) (2 : Nat)) (RMem.ldW { n := n3, S := g3, k := n4, G := g4, L := h4, off := x0, left := x1, count := x2 } (1 : Int) (3 : Nat)) (RMem.ldW { n := n3, S := g3, k := n4, G := g4, L := h4, off := x0, left := x1, count := x2 } (1 : Int) (4 : Nat)) (RMem.ldW { n := n3, S := g3, k := n4, G := g4, L := h4, off := x0, left := x1, count := x2 } (1 : Int) (5 : Nat)) (RMem.ldW { n := n3, S := g3, k := n4, G := g4, L := h4, off := x0, left := x1, count := x2 } (1 : Int) (6 : Nat)) (RMem.ldW { n := n3, S := g3, k := n4, G := g4, L := h4, off := x0, left := x1, count := x2 } (1 : Int) (7 : Nat))
noncomputable def rFind_c6 (x0 : Bool) (x1 : Int) (x2 : Int) (n3 : Nat) (g3 : Nat → Nat → Int) (n4 : Nat) (g4 : Nat → Nat → Int) (h4 : Nat → Nat → Int) : Bool := !(rFind_c5 x0 x1 x2 n3 g3 n4 g4 h4)
noncomputable def rFind_c7 (x0 : Bool) (x1 : Int) (x2 : Int) (n3 : Nat) (g3 : Nat → Nat → Int) (n4 : Nat) (g4 : Nat → Nat → Int) (h4 : Nat → Nat → Int) : Bool := ok_rBest (RMem.ldW { n := n3, S := g3, k := n4, G := g4, L := h4, off := x0, left := x1, count := x2 } (0 : Int) (0 : Nat)) (RMem.ldW { n := n3, S := g3, k := n4, G := g4, L := h4, off := x0, left := x1, count := x2 } (0 : Int) (1 : Nat)) (RMem.ldW { n := n3, S := g3, k := n4, G := g4, L := h4, off := x0, left := x1, count := x2 } (0 : Int) (2 : Nat)) (RMem.ldW { n := n3, S := g3, k := n4, G := g4, L := h4, off := x0, left := x1, count := x2 } (0 : Int) (3 : Nat)) (RMem.ldW { n := n3, S := g3, k := n4, G := g4, L := h4, off := x0, left := x1, count := x2 } (0 : Int) (4 : Nat)) (RMem.ldW { n := n3, S := g3, k := n4, G := g4, L := h4, off := x0, left := x1, count := x2 } (0 : Int) (5 : Nat)) (RMem.ldW { n := n3, S := g3, k := n4, G := g4, L := h4, off := x0, left := x1, count := x2 } (0 : Int) (6 : Nat)) (RMem.ldW { n := n3, S := g3, k := n4, G := g4, L := h4, off := x0, left := x1, count := x2 } (0 : Int) (7 : Nat)) (RMem.ldW { n := n3, S := g3, k := n4, G := g4, L := h4, off := x0, left := x1, count := x2 } (1 : Int) (0 : Nat)) (RMem.ldW { n := n3, S := g3, k := n4, G := g4, L := h4, off := x0, left := x1, count := x2 } (1 : Int) (1 : Nat)) (RMem.ldW { n := n3, S := g3, k := n4, G := g4, L := h4, off := x0, left := x1, count := x2 } (1 : Int) (2 : Nat)) (RMem.ldW { n := n3, S := g3, k := n4, G := g4, L := h4, off := x0, left := x1, count := x2 } (1 : Int) (3 : Nat)) (RMem.ldW { n := n3, S := g3, k := n4, G := g4, L := h4, off := x0, left := x1, count := x2 } (1 : Int) (4 : Nat)) (RMem.ldW { n := n3, S := g3, k := n4, G := g4, L := h4, off := x0, left := x1, count := x2 } (1 : Int) (5 : Nat)) (RMem.ldW { n := n3, S := g3, k := n4, G := g4, L := h4, off := x0, left := x1, count := x2 } (1 : Int) (6 : Nat)) (RMem.ldW { n := n3, S := g3, k := n4, G := g4, L := h4, off := x0, left := x1, count := x2 } (1 : Int) (7 : Nat))
noncomputable def T_rFind (x0 : Bool) (x1 : Int) (x2 : Int) (n3 : Nat) (g3 : Nat → Nat → Int) (n4 : Nat) (g4 : Nat → Nat → Int) (h4 : Nat → Nat → Int) : Tr (List At) :=
 .br 0 (pdec (RMem.Ok (900000 : Int) { n := n3, S := g3, k := n4, G := g4, L := h4, off := x0, left := x1, count := x2 }))
 (.br 17 (RMem.ldC { n := n3, S := g3, k := n4, G := g4, L := h4, off := x0, left := x1, count := x2 } (0 : Int) != (0 : Int))
 (.ok [(.i ((0 : Int))), (.i ((0 : Int))), (.i ((0 : Int))), (.i ((0 : Int))), (.i ((0 : Int))), (.i (RMem.ldC { n := n3, S := g3, k := n4, G := g4, L := h4, off := x0, left := x1, count := x2 } (0 : Int)))])
 (.br 0 (pdec (RMem.Ok (900000 : Int) { n := n3, S := g3, k := n4, G := g4, L := h4, off := x0, left := x1, count := x2 }))
 (.br 26 (RMem.ldC { n := n3, S := g3, k := n4, G := g4, L := h4, off := x0, left := x1, count := x2 } (1 : Int) != (0 : Int))
 (.ok [(.i ((0 : Int))), (.i ((0 : Int))), (.i ((0 : Int))), (.i ((0 : Int))), (.i ((0 : Int))), (.i (RMem.ldC { n := n3, S := g3, k := n4, G := g4, L := h4, off := x0, left := x1, count := x2 } (1 : Int)))])
 (.br 0 ((rFind_c7 x0 x1 x2 n3 g3 n4 g4 h4))
 (.br 37 ((rFind_c6 x0 x1 x2 n3 g3 n4 g4 h4))
 (.ok [(.i ((0 : Int))), (.i ((0 : Int))), (.i ((0 : Int))), (.i ((0 : Int))), (.i ((0 : Int))), (.i ((20 : Int)))])
 (.ok [(.i ((rFind_c0 x0 x1 x2 n3 g3 n4 g4 h4))), (.i ((rFind_c1 x0 x1 x2 n3 g3 n4 g4 h4))), (.i ((rFind_c2 x0 x1 x2 n3 g3 n4 g4 h4))), (.i ((rFind_c3 x0 x1 x2 n3 g3 n4 g4 h4))), (.i ((rFind_c4 x0 x1 x2 n3 g3 n4 g4 h4))), (.i ((0 : Int)))]))
 (.no)))
 (.no)))
 (.no)
noncomputable def y_rFind : Nat → Option Nat := (syOf3 [17, 26, 37] [] [])
noncomputable def TL_rFind (l : List At) : Tr (List At) := T_rFind (aB l 0) (aI l 1) (aI l 2) (aRn l 3) (aRg l 3) (aRn l 4) (aRg l 4) (aMh l 4 0 10)
theorem e_rFind (l : List At) : (call Try.prog Γ_RR2 y_rFind noLoops 100 Try.f30 (mkV ish_rFind l) (mkH ish_rFind l)).bind (leafO 4 osh_rFind) = TL_rFind l := by kernel_rfl
noncomputable def F_rFind : List At → Tr (List At) := TL_rFind
theorem s_rFind : SpecF Try.prog 30 (.read (locR ish_rFind osh_rFind F_rFind)) :=
  spec_read (sy := y_rFind) (fuel := 100) (Lp := noLoops) o_RR2 mixed ⟨Try.func30, by kernel_rfl, by kernel_rfl⟩ ish_rFind osh_rFind (by kernel_rfl) (noLoops_ok _) (hT_ways e_rFind)
noncomputable def Γ_rFind : Specs := upd Γ_RR2 30 (.read (locR ish_rFind osh_rFind F_rFind))
theorem o_rFind : SpecOK Try.prog Γ_rFind := SpecOK.upd o_RR2 s_rFind

/-! ### the loop at 8 of rWrite -/

noncomputable def lsh_rWrite_8 : FSh := ⟨[.v false [.p 0 0], .v false [.k (.n .i64)], .v false [.k (.n .i64)], .any, .any, .any, .any, .any, .any, .v false [.p 4 0], .any, .v false [.k (.n .i64)], .any, .any, .any, .any, .any, .any, .any, .any, .any, .any, .any, .any, .any, .any, .any, .any, .any, .any, .any, .any, .any, .any, .any, .any, .any, .any, .any, .any, .any, .any, .any, .any, .any, .any, .any, .any, .any, .any, .any, .any, .any, .any, .any, .any, .any], [.cells [.sw 1 8, .sw 2 1, .k .b, .k (.n .i64), .k (.n .i64)], .rows [.n .u64, .n .u64, .n .u64, .n .u64, .n .u64, .n .u64, .n .u64, .n .u64] true, .nrows [.n .i64] 0 [.n .i64, .n .u64, .b, .b, .b, .b, .b, .b, .b, .b] 5 false true, .no, .cells [.k (.n .u64), .k (.n .u64), .k (.n .u64), .k (.n .u64), .k (.n .u64), .k (.n .u64), .k (.n .u64), .k (.n .u64)], .no]⟩
noncomputable def xsh_rWrite_8_0 : FSh := ⟨[.v false [.p 0 0], .v false [.k (.n .i64)], .v false [.k (.n .i64)], .any, .any, .any, .any, .any, .any, .any, .any, .any, .any, .any, .any, .any, .any, .any, .any, .any, .any, .any, .any, .any, .any, .any, .any, .any, .any, .any, .any, .any, .any, .any, .any, .any, .any, .any, .any, .any, .any, .any, .any, .any, .any, .any, .any, .any, .any, .any, .any, .any, .any, .any, .any, .any, .any], [.cells [.sw 1 8, .sw 2 1, .k .b, .k (.n .i64), .k (.n .i64)], .rows [.n .u64, .n .u64, .n .u64, .n .u64, .n .u64, .n .u64, .n .u64, .n .u64] true, .nrows [.n .i64] 0 [.n .i64, .n .u64, .b, .b, .b, .b, .b, .b, .b, .b] 4 false true, .no, .no]⟩
noncomputable def xsh_rWrite_8_1 : FSh := ⟨[.any, .any, .any, .any, .any, .any, .any, .any, .v false [.k (.n .i64)], .any, .any, .any, .any, .any, .any, .any, .any, .any, .any, .any, .any, .any, .any, .any, .any, .any, .any, .any, .any, .any, .any, .any, .any, .any, .any, .any, .any, .any, .any, .any, .any, .any, .any, .any, .any, .any, .any, .any, .any, .any, .any, .any, .any, .any, .any, .any, .any], [.cells [.sw 1 8, .sw 2 1, .k .b, .k (.n .i64), .k (.n .i64)], .rows [.n .u64, .n .u64, .n .u64, .n .u64, .n .u64, .n .u64, .n .u64, .n .u64] true, .nrows [.n .i64] 0 [.n .i64, .n .u64, .b, .b, .b, .b, .b, .b, .b, .b] 4 false true, .no, .no]⟩
noncomputable def xs_rWrite_8 : Exs := fun e => match e with
  | .normal => some lsh_rWrite_8
  | .exit n => (match Nat.beq n 0 with | true => some xsh_rWrite_8_0 | false => none)
  | .ret => some xsh_rWrite_8_1
noncomputable def B_rWrite_8 (x0 : Int) (x1 : Int) (x2 : Int) (x3 : Bool) (x4 : Int) (x5 : Int) (n6 : Nat) (g6 : Nat → Nat → Int) (n7 : Nat) (g7 : Nat → Nat → Int) (h7 : Nat → Nat → Int) (x8 : Int) (x9 : Int) (x10 : Int) (x11 : Int) (x12 : Int) (x13 : Int) (x14 : Int) (x15 : Int) : Tr (Ex × List At) :=
 .br 34 (Decidable.decide (x2 < (8 : Int)))
 (.br 200041 (Go.AM.within x2 (8 : Nat))
 (.br 0 (pdec (RMem.Ok (900000 : Int) { n := n6, S := g6, k := n7, G := g7, L := h7, off := x3, left := x4, count := x5 }))
 (.br 45 (RMem.stC { n := n6, S := g6, k := n7, G := g7, L := h7, off := x3, left := x4, count := x5 } x1 x2 != (0 : Int))
 (.ok (.ret, [(.i (RMem.stC { n := n6, S := g6, k := n7, G := g7, L := h7, off := x3, left := x4, count := x5 } x1 x2)), (.b ((RMem.stM { n := n6, S := g6, k := n7, G := g7, L := h7, off := x3, left := x4, count := x5 } x1 x2 (List.getD [x8, x9, x10, x11, x12, x13, x14, x15] (Int.toNat x2) (0 : Int))).off)), (.i ((RMem.stM { n := n6, S := g6, k := n7, G := g7, L := h7, off := x3, left := x4, count := x5 } x1 x2 (List.getD [x8, x9, x10, x11, x12, x13, x14, x15] (Int.toNat x2) (0 : Int))).left)), (.i ((RMem.stM { n := n6, S := g6, k := n7, G := g7, L := h7, off := x3, left := x4, count := x5 } x1 x2 (List.getD [x8, x9, x10, x11, x12, x13, x14, x15] (Int.toNat x2) (0 : Int))).count)), (.r ((RMem.stM { n := n6, S := g6, k := n7, G := g7, L := h7, off := x3, left := x4, count := x5 } x1 x2 (List.getD [x8, x9, x10, x11, x12, x13, x14, x15] (Int.toNat x2) (0 : Int))).n) ((RMem.stM { n := n6, S := g6, k := n7, G := g7, L := h7, off := x3, left := x4, count := x5 } x1 x2 (List.getD [x8, x9, x10, x11, x12, x13, x14, x15] (Int.toNat x2) (0 : Int))).S)), (.q ((RMem.stM { n := n6, S := g6, k := n7, G := g7, L := h7, off := x3, left := x4, count := x5 } x1 x2 (List.getD [x8, x9, x10, x11, x12, x13, x14, x15] (Int.toNat x2) (0 : Int))).k) ((RMem.stM { n := n6, S := g6, k := n7, G := g7, L := h7, off := x3, left := x4, count := x5 } x1 x2 (List.getD [x8, x9, x10, x11, x12, x13, x14, x15] (Int.toNat x2) (0 : Int))).G) ((0 : Nat)) ((10 : Nat)) ((RMem.stM { n := n6, S := g6, k := n7, G := g7, L := h7, off := x3, left := x4, count := x5 } x1 x2 (List.getD [x8, x9, x10, x11, x12, x13, x14, x15] (Int.toNat x2) (0 : Int))).L))]))
 (.ok (.normal, [(.i (x0)), (.i (x1)), (.i (Go.IntKind.wrap Go.IntKind.i64 (x2 + (1 : Int)))), (.b ((RMem.stM { n := n6, S := g6, k := n7, G := g7, L := h7, off := x3, left := x4, count := x5 } x1 x2 (List.getD [x8, x9, x10, x11, x12, x13, x14, x15] (Int.toNat x2) (0 : Int))).off)), (.i ((RMem.stM { n := n6, S := g6, k := n7, G := g7, L := h7, off := x3, left := x4, count := x5 } x1 x2 (List.getD [x8, x9, x10, x11, x12, x13, x14, x15] (Int.toNat x2) (0 : Int))).left)), (.i ((RMem.stM { n := n6, S := g6, k := n7, G := g7, L := h7, off := x3, left := x4, count := x5 } x1 x2 (List.getD [x8, x9, x10, x11, x12, x13, x14, x15] (Int.toNat x2) (0 : Int))).count)), (.r ((RMem.stM { n := n6, S := g6, k := n7, G := g7, L := h7, off := x3, left := x4, count := x5 } x1 x2 (List.getD [x8, x9, x10, x11, x12, x13, x14, x15] (Int.toNat x2) (0 : Int))).n) ((RMem.stM { n := n6, S := g6, k := n7, G := g7, L := h7, off := x3, left := x4, count := x5 } x1 x2 (List.getD [x8, x9, x10, x11, x12, x13, x14, x15] (Int.toNat x2) (0 : Int))).S)), (.q ((RMem.stM { n := n6, S := g6, k := n7, G := g7, L := h7, off := x3, left := x4, count := x5 } x1 x2 (List.getD [x8, x9, x10, x11, x12, x13, x14, x15] (Int.toNat x2) (0 : Int))).k) ((RMem.stM { n := n6, S := g6, k := n7, G := g7, L := h7, off := x3, left := x4, count := x5 } x1 x2 (List.getD [x8, x9, x10, x11, x12, x13, x14, x15] (Int.toNat x2) (0 : Int))).G) ((0 : Nat)) ((10 : Nat)) ((RMem.stM { n := n6, S := g6, k := n7, G := g7, L := h7, off := x3, left := x4, count := x5 } x1 x2 (List.getD [x8, x9, x10, x11, x12, x13, x14, x15] (Int.toNat x2) (0 : Int))).L)), (.i (x8)), (.i (x9)), (.i (x10)), (.i (x11)), (.i (x12)), (.i (x13)), (.i (x14)), (.i (x15))])))
 (.no))
 (.no))
 (.ok (.exit 0, [(.i (x0)), (.i (x1)), (.b (x3)), (.i (x4)), (.i (x5)), (.r (n6) (g6)), (.q (n7) (g7) ((0 : Nat)) ((10 : Nat)) (h7))]))
noncomputable def y_rWrite_8 : Nat → Option Nat := (syOf3 [34, 45] [] [41])
noncomputable def BL_rWrite_8 (l : List At) : Tr (Ex × List At) := B_rWrite_8 (aI l 0) (aI l 1) (aI l 2) (aB l 3) (aI l 4) (aI l 5) (aRn l 6) (aRg l 6) (aRn l 7) (aRg l 7) (aMh l 7 0 10) (aI l 8) (aI l 9) (aI l 10) (aI l 11) (aI l 12) (aI l 13) (aI l 14) (aI l 15)
theorem eB_rWrite_8 (l : List At) : (exec Try.prog Γ_rFind y_rWrite_8 noLoops 100 (loopAt Try.f27 8) ⟨mkV lsh_rWrite_8 l, mkH lsh_rWrite_8 l⟩).bind (leafL 4 xs_rWrite_8) = BL_rWrite_8 l := by kernel_rfl
/- by hand: O_rWrite_8 (x0 : Int) (x1 : Int) (x2 : Int) (x3 : Bool) (x4 : Int) (x5 : Int) (n6 : Nat) (g6 : Nat → Nat → Int) (n7 : Nat) (g7 : Nat → Nat → Int) (h7 : Nat → Nat → Int) (x8 : Int) (x9 : Int) (x10 : Int) (x11 : Int) (x12 : Int) (x13 : Int) (x14 : Int) (x15 : Int) : Tr (Ex × List At); OL_rWrite_8 (l) := O_rWrite_8 (aI l 0) (aI l 1) (aI l 2) (aB l 3) (aI l 4) (aI l 5) (aRn l 6) (aRg l 6) (aRn l 7) (aRg l 7) (aMh l 7 0 10) (aI l 8) (aI l 9) (aI l 10) (aI l 11) (aI l 12) (aI l 13) (aI l 14) (aI l 15); μ_rWrite_8 : List At → Nat; rd_rWrite_8 : ∀ l r, (OL_rWrite_8 l).val = some r → RoundA BL_rWrite_8 OL_rWrite_8 μ_rWrite_8 l r -/

end Go.Proofs.Ytgmhggipaopoiaa.G
end

/-
  The loop of the reference's Write: a line's words, one behind the other.
-/
section
namespace Go.Proofs.Ytgmhggipaopoiaa.G
open Go Go.AM Go.Proofs

def rstL (w : Nat → Int) (s : Int) : (k i : Nat) → RMem → RMem × Int
  | 0, _, M => (M, 0)
  | k + 1, i, M => if M.stC s (i : Int) = 0 then rstL w s k (i + 1) (M.stM s (i : Int) (w i)) else (M.stM s (i : Int) (w i), M.stC s (i : Int))

def T_rstL (x0 x1 : Int) (p : RMem × Int) : Tr (Ex × List At) := .br 0 (p.2 != 0) (.ok (.ret, .i p.2 :: p.1.ats)) (.ok (.exit 0, .i x0 :: .i x1 :: p.1.ats))

def rpreW (x10 : Int) (m : RMem) : Prop := 0 ≤ x10 ∧ x10 ≤ 8 ∧ m.Ok (890000 + x10)

noncomputable def O_rWrite_8 (x0 x1 x10 : Int) (w : Nat → Int) (m : RMem) : Tr (Ex × List At) :=
  .br 0 (pdec (rpreW x10 m)) (T_rstL x0 x1 (rstL w x1 (8 - x10.toNat) x10.toNat m)) .no
noncomputable def OL_rWrite_8 (l : List At) : Tr (Ex × List At) := O_rWrite_8 (aI l 0) (aI l 1) (aI l 2) (fun i => [aI l 8, aI l 9, aI l 10, aI l 11, aI l 12, aI l 13, aI l 14, aI l 15].getD i 0) ⟨aRn l 6, aRg l 6, aRn l 7, aRg l 7, aMh l 7 0 10, aB l 3, aI l 4, aI l 5⟩
def μ_rWrite_8 (l : List At) : Nat := (8 - aI l 2).toNat

theorem rd_rWrite_8 : ∀ l r, (OL_rWrite_8 l).val = some r → RoundS BL_rWrite_8 OL_rWrite_8 μ_rWrite_8 l r := by
  intro l r hh
  unfold OL_rWrite_8 at hh
  obtain ⟨hc, h⟩ := guard_val hh
  clear hh
  obtain ⟨c0, c1, c2⟩ := of_pdec hc
  unfold RoundS BL_rWrite_8 B_rWrite_8
  generalize hx0 : aI l 0 = x0 at *
  generalize hx1 : aI l 1 = x1 at *
  generalize hx10 : aI l 2 = x10 at *
  refine brD (fun h1 => ?_) (fun h1 => ?_)
  · obtain ⟨i, rfl⟩ := Int.eq_ofNat_of_zero_le c0
    rw [Int.toNat_natCast] at h ⊢
    have hw : IntKind.i64.wrap ((i : Int) + 1) = (i : Int) + 1 := wrap_i64 (by omega) (by omega)
    have hμ : (8 - ((i : Int) + 1)).toNat < μ_rWrite_8 l := by unfold μ_rWrite_8; rw [hx10]; omega
    have e1 : 8 - i = (8 - ((i : Int) + 1).toNat) + 1 := by omega
    rw [e1, rstL] at h
    rw [hw]
    refine brW (fun _ => brT (pdec_yes (c2.mono (by omega))) (brNE (fun hne => ?_) (fun he => ?_))) (fun hh => by exfalso; omega)
    · rw [if_neg hne] at h
      have hv := val_ok ((br_t (g := 0) (show (_ != (0 : Int)) = true by simpa using hne)).symm.trans h)
      subst hv
      exact out_ (by simp) rfl (AtsEq.refl _)
    · rw [if_pos he] at h
      have hq : rpreW ((i : Int) + 1) _ := ⟨by omega, by omega, (rstM_ok (i := x1) (w := (i : Int)) (v := [aI l 8, aI l 9, aI l 10, aI l 11, aI l 12, aI l 13, aI l 14, aI l 15].getD i 0) c2 (by omega)).mono (by omega)⟩
      exact on_ _ r (AtsEq.refl _) hμ ((br_t (g := 0) (pdec_yes hq)).trans h) rfl (AtsEq.refl _)
  · have e : 8 - x10.toNat = 0 := by omega
    rw [e, rstL] at h
    have hv := val_ok h
    subst hv
    exact out_ (by simp) rfl (AtsEq.refl _)
end Go.Proofs.Ytgmhggipaopoiaa.G
end

/-
  What functions of the seat compute, printed by a program from the explorer.
-/
section
namespace Go.Proofs.Ytgmhggipaopoiaa.G
open Go Go.AM Go.Proofs
theorem f_rWrite_8 : LoopF Try.prog 4 (loopAt Try.f27 8) (loopFn 4 lsh_rWrite_8 xs_rWrite_8 OL_rWrite_8) :=
  loop_sat (sy := y_rWrite_8) (fuel := 100) (Lp := noLoops) o_rFind mixed (loopsOK_at (noLoops_ok _) 8) rfl eB_rWrite_8 rd_rWrite_8
noncomputable def Lp_rWrite_8 : Loops := Loops.set noLoops 8 (loopFn 4 lsh_rWrite_8 xs_rWrite_8 OL_rWrite_8)
theorem lk_rWrite_8 : LoopsFn Try.prog 4 Lp_rWrite_8 Try.f27 := loopsFn_set (noLoops_ok _) (by kernel_rfl) f_rWrite_8

/-! ### rWrite -/

noncomputable def ish_rWrite : FSh := ⟨[.v false [.p 0 0], .v false [.k (.n .i64)], .v false [.k (.n .i64)], .v true [.k (.n .i64), .k (.n .i64), .k (.n .i64), .k (.n .i64)]], [.cells [.sw 1 8, .sw 2 1, .k .b, .k (.n .i64), .k (.n .i64)], .rows [.n .u64, .n .u64, .n .u64, .n .u64, .n .u64, .n .u64, .n .u64, .n .u64] true, .nrows [.n .i64] 0 [.n .i64, .n .u64, .b, .b, .b, .b, .b, .b, .b, .b] 3 false true, .no]⟩
noncomputable def osh_rWrite : FSh := ⟨[.v false [.k (.n .i64)]], [.cells [.sw 1 8, .sw 2 1, .k .b, .k (.n .i64), .k (.n .i64)], .rows [.n .u64, .n .u64, .n .u64, .n .u64, .n .u64, .n .u64, .n .u64, .n .u64] true, .nrows [.n .i64] 0 [.n .i64, .n .u64, .b, .b, .b, .b, .b, .b, .b, .b] 4 false true, .no, .no]⟩
noncomputable def T_rWrite (x0 : Int) (x1 : Int) (x2 : Int) (x3 : Int) (x4 : Int) (x5 : Int) (x6 : Bool) (x7 : Int) (x8 : Int) (n9 : Nat) (g9 : Nat → Nat → Int) (n10 : Nat) (g10 : Nat → Nat → Int) (h10 : Nat → Nat → Int) : Tr (List At) :=
 .br 0 (ok_rLine x2 x3 x4 x5)
 (.br 19 (Decidable.decide (x1 < (0 : Int)))
 (.ok [(.i ((1 : Int))), (.b (x6)), (.i (x7)), (.i (x8)), (.r (n9) (g9)), (.q (n10) (g10) ((0 : Nat)) ((10 : Nat)) (h10))])
 (.br 23 (Decidable.decide (x1 > (1 : Int)))
 (.ok [(.i ((1 : Int))), (.b (x6)), (.i (x7)), (.i (x8)), (.r (n9) (g9)), (.q (n10) (g10) ((0 : Nat)) ((10 : Nat)) (h10))])
 (.br 26 (r_rLine_8 x2 x3 x4 x5 != (0 : Int))
 (.ok [(.i ((1 : Int))), (.b (x6)), (.i (x7)), (.i (x8)), (.r (n9) (g9)), (.q (n10) (g10) ((0 : Nat)) ((10 : Nat)) (h10))])
 (.br 0 (pdec (RMem.Ok (900000 : Int) { n := n9, S := g9, k := n10, G := g10, L := h10, off := x6, left := x7, count := x8 }))
 (.br 31 (RMem.stC { n := n9, S := g9, k := n10, G := g10, L := h10, off := x6, left := x7, count := x8 } x1 (7 : Int) != (0 : Int))
 (.ok [(.i (RMem.stC { n := n9, S := g9, k := n10, G := g10, L := h10, off := x6, left := x7, count := x8 } x1 (7 : Int))), (.b ((RMem.stM { n := n9, S := g9, k := n10, G := g10, L := h10, off := x6, left := x7, count := x8 } x1 (7 : Int) (0 : Int)).off)), (.i ((RMem.stM { n := n9, S := g9, k := n10, G := g10, L := h10, off := x6, left := x7, count := x8 } x1 (7 : Int) (0 : Int)).left)), (.i ((RMem.stM { n := n9, S := g9, k := n10, G := g10, L := h10, off := x6, left := x7, count := x8 } x1 (7 : Int) (0 : Int)).count)), (.r ((RMem.stM { n := n9, S := g9, k := n10, G := g10, L := h10, off := x6, left := x7, count := x8 } x1 (7 : Int) (0 : Int)).n) ((RMem.stM { n := n9, S := g9, k := n10, G := g10, L := h10, off := x6, left := x7, count := x8 } x1 (7 : Int) (0 : Int)).S)), (.q ((RMem.stM { n := n9, S := g9, k := n10, G := g10, L := h10, off := x6, left := x7, count := x8 } x1 (7 : Int) (0 : Int)).k) ((RMem.stM { n := n9, S := g9, k := n10, G := g10, L := h10, off := x6, left := x7, count := x8 } x1 (7 : Int) (0 : Int)).G) ((0 : Nat)) ((10 : Nat)) ((RMem.stM { n := n9, S := g9, k := n10, G := g10, L := h10, off := x6, left := x7, count := x8 } x1 (7 : Int) (0 : Int)).L))])
 (.br 0 (pdec (rpreW (0 : Int) (RMem.stM { n := n9, S := g9, k := n10, G := g10, L := h10, off := x6, left := x7, count := x8 } x1 (7 : Int) (0 : Int))))
 (.br 0 ((rstL (fun (i : Nat) => List.getD [r_rLine_0 x2 x3 x4 x5, r_rLine_1 x2 x3 x4 x5, r_rLine_2 x2 x3 x4 x5, r_rLine_3 x2 x3 x4 x5, r_rLine_4 x2 x3 x4 x5, r_rLine_5 x2 x3 x4 x5, r_rLine_6 x2 x3 x4 x5, r_rLine_7 x2 x3 x4 x5] i (0 : Int)) x1 (8 : Nat) (0 : Nat) (RMem.stM { n := n9, S := g9, k := n10, G := g10, L := h10, off := x6, left := x7, count := x8 } x1 (7 : Int) (0 : Int))).snd != (0 : Int))
 (.ok [(.i ((rstL (fun (i : Nat) => List.getD [r_rLine_0 x2 x3 x4 x5, r_rLine_1 x2 x3 x4 x5, r_rLine_2 x2 x3 x4 x5, r_rLine_3 x2 x3 x4 x5, r_rLine_4 x2 x3 x4 x5, r_rLine_5 x2 x3 x4 x5, r_rLine_6 x2 x3 x4 x5, r_rLine_7 x2 x3 x4 x5] i (0 : Int)) x1 (8 : Nat) (0 : Nat) (RMem.stM { n := n9, S := g9, k := n10, G := g10, L := h10, off := x6, left := x7, count := x8 } x1 (7 : Int) (0 : Int))).snd)), (.b ((rstL (fun (i : Nat) => List.getD [r_rLine_0 x2 x3 x4 x5, r_rLine_1 x2 x3 x4 x5, r_rLine_2 x2 x3 x4 x5, r_rLine_3 x2 x3 x4 x5, r_rLine_4 x2 x3 x4 x5, r_rLine_5 x2 x3 x4 x5, r_rLine_6 x2 x3 x4 x5, r_rLine_7 x2 x3 x4 x5] i (0 : Int)) x1 (8 : Nat) (0 : Nat) (RMem.stM { n := n9, S := g9, k := n10, G := g10, L := h10, off := x6, left := x7, count := x8 } x1 (7 : Int) (0 : Int))).fst.off)), (.i ((rstL (fun (i : Nat) => List.getD [r_rLine_0 x2 x3 x4 x5, r_rLine_1 x2 x3 x4 x5, r_rLine_2 x2 x3 x4 x5, r_rLine_3 x2 x3 x4 x5, r_rLine_4 x2 x3 x4 x5, r_rLine_5 x2 x3 x4 x5, r_rLine_6 x2 x3 x4 x5, r_rLine_7 x2 x3 x4 x5] i (0 : Int)) x1 (8 : Nat) (0 : Nat) (RMem.stM { n := n9, S := g9, k := n10, G := g10, L := h10, off := x6, left := x7, count := x8 } x1 (7 : Int) (0 : Int))).fst.left)), (.i ((rstL (fun (i : Nat) => List.getD [r_rLine_0 x2 x3 x4 x5, r_rLine_1 x2 x3 x4 x5, r_rLine_2 x2 x3 x4 x5, r_rLine_3 x2 x3 x4 x5, r_rLine_4 x2 x3 x4 x5, r_rLine_5 x2 x3 x4 x5, r_rLine_6 x2 x3 x4 x5, r_rLine_7 x2 x3 x4 x5] i (0 : Int)) x1 (8 : Nat) (0 : Nat) (RMem.stM { n := n9, S := g9, k := n10, G := g10, L := h10, off := x6, left := x7, count := x8 } x1 (7 : Int) (0 : Int))).fst.count)), (.r ((rstL (fun (i : Nat) => List.getD [r_rLine_0 x2 x3 x4 x5, r_rLine_1 x2 x3 x4 x5, r_rLine_2 x2 x3 x4 x5, r_rLine_3 x2 x3 x4 x5, r_rLine_4 x2 x3 x4 x5, r_rLine_5 x2 x3 x4 x5, r_rLine_6 x2 x3 x4 x5, r_rLine_7 x2 x3 x4 x5] i (0 : Int)) x1 (8 : Nat) (0 : Nat) (RMem.stM { n := n9, S := g9, k := n10, G := g10, L := h10, off := x6, left := x7, count := x8 } x1 (7 : Int) (0 : Int))).fst.n) ((rstL (fun (i : Nat) => List.getD [r_rLine_0 x2 x3 x4 x5, r_rLine_1 x2 x3 x4 x5, r_rLine_2 x2 x3 x4 x5, r_rLine_3 x2 x3 x4 x5, r_rLine_4 x2 x3 x4 x5, r_rLine_5 x2 x3 x4 x5, r_rLine_6 x2 x3 x4 x5, r_rLine_7 x2 x3 x4 x5] i (0 : Int)) x1 (8 : Nat) (0 : Nat) (RMem.stM { n := n9, S := g9, k := n10, G := g10, L := h10, off := x6, left := x7, count := x8 } x1 (7 : Int) (0 : Int))).fst.S)), (.q ((rstL (fun (i : Nat) => List.getD [r_rLine_0 x2 x3 x4 x5, r_rLine_1 x2 x3 x4 x5, r_rLine_2 x2 x3 x4 x5, r_rLine_3 x2 x3 x4 x5, r_rLine_4 x2 x3 x4 x5, r_rLine_5 x2 x3 x4 x5, r_rLine_6 x2 x3 x4 x5, r_rLine_7 x2 x3 x4 x5] i (0 : Int)) x1 (8 : Nat) (0 : Nat) (RMem.stM { n := n9, S := g9, k := n10, G := g10, L := h10, off := x6, left := x7, count := x8 } x1 (7 : Int) (0 : Int))).fst.k) ((rstL (fun (i : Nat) => List.getD [r_rLine_0 x2 x3 x4 x5, r_rLine_1 x2 x3 x4 x5, r_rLine_2 x2 x3 x4 x5, r_rLine_3 x2 x3 x4 x5, r_rLine_4 x2 x3 x4 x5, r_rLine_5 x2 x3 x4 x5, r_rLine_6 x2 x3 x4 x5, r_rLine_7 x2 x3 x4 x5] i (0 : Int)) x1 (8 : Nat) (0 : Nat) (RMem.stM { n := n9, S := g9, k := n10, G := g10, L := h10, off := x6, left := x7, count := x8 } x1 (7 : Int) (0 : Int))).fst.G) ((0 : Nat)) ((10 : Nat)) ((rstL (fun (i : Nat) => List.getD [r_rLine_0 x2 x3 x4 x5, r_rLine_1 x2 x3 x4 x5, r_rLine_2 x2 x3 x4 x5, r_rLine_3 x2 x3 x4 x5, r_rLine_4 x2 x3 x4 x5, r_rLine_5 x2 x3 x4 x5, r_rLine_6 x2 x3 x4 x5, r_rLine_7 x2 x3 x4 x5] i (0 : Int)) x1 (8 : Nat) (0 : Nat) (RMem.stM { n := n9, S := g9, k := n10, G := g10, L := h10, off := x6, left := x7, count := x8 } x1 (7 : Int) (0 : Int))).fst.L))])
 (.br 0 (pdec (RMem.Ok (900000 : Int) (rstL (fun (i : Nat) => List.getD [r_rLine_0 x2 x3 x4 x5, r_rLine_1 x2 x3 x4 x5, r_rLine_2 x2 x3 x4 x5, r_rLine_3 x2 x3 x4 x5, r_rLine_4 x2 x3 x4 x5, r_rLine_5 x2 x3 x4 x5, r_rLine_6 x2 x3 x4 x5, r_rLine_7 x2 x3 x4 x5] i (0 : Int)) x1 (8 : Nat) (0 : Nat) (RMem.stM { n := n9, S := g9, k := n10, G := g10, L := h10, off := x6, left := x7, count := x8 } x1 (7 : Int) (0 : Int))).fst))
 (.br 52 (RMem.flC (rstL (fun (i : Nat) => List.getD [r_rLine_0 x2 x3 x4 x5, r_rLine_1 x2 x3 x4 x5, r_rLine_2 x2 x3 x4 x5, r_rLine_3 x2 x3 x4 x5, r_rLine_4 x2 x3 x4 x5, r_rLine_5 x2 x3 x4 x5, r_rLine_6 x2 x3 x4 x5, r_rLine_7 x2 x3 x4 x5] i (0 : Int)) x1 (8 : Nat) (0 : Nat) (RMem.stM { n := n9, S := g9, k := n10, G := g10, L := h10, off := x6, left := x7, count := x8 } x1 (7 : Int) (0 : Int))).fst x0 x1 != (0 : Int))
 (.ok [(.i (RMem.flC (rstL (fun (i : Nat) => List.getD [r_rLine_0 x2 x3 x4 x5, r_rLine_1 x2 x3 x4 x5, r_rLine_2 x2 x3 x4 x5, r_rLine_3 x2 x3 x4 x5, r_rLine_4 x2 x3 x4 x5, r_rLine_5 x2 x3 x4 x5, r_rLine_6 x2 x3 x4 x5, r_rLine_7 x2 x3 x4 x5] i (0 : Int)) x1 (8 : Nat) (0 : Nat) (RMem.stM { n := n9, S := g9, k := n10, G := g10, L := h10, off := x6, left := x7, count := x8 } x1 (7 : Int) (0 : Int))).fst x0 x1)), (.b ((RMem.flM (rstL (fun (i : Nat) => List.getD [r_rLine_0 x2 x3 x4 x5, r_rLine_1 x2 x3 x4 x5, r_rLine_2 x2 x3 x4 x5, r_rLine_3 x2 x3 x4 x5, r_rLine_4 x2 x3 x4 x5, r_rLine_5 x2 x3 x4 x5, r_rLine_6 x2 x3 x4 x5, r_rLine_7 x2 x3 x4 x5] i (0 : Int)) x1 (8 : Nat) (0 : Nat) (RMem.stM { n := n9, S := g9, k := n10, G := g10, L := h10, off := x6, left := x7, count := x8 } x1 (7 : Int) (0 : Int))).fst x0 x1).off)), (.i ((RMem.flM (rstL (fun (i : Nat) => List.getD [r_rLine_0 x2 x3 x4 x5, r_rLine_1 x2 x3 x4 x5, r_rLine_2 x2 x3 x4 x5, r_rLine_3 x2 x3 x4 x5, r_rLine_4 x2 x3 x4 x5, r_rLine_5 x2 x3 x4 x5, r_rLine_6 x2 x3 x4 x5, r_rLine_7 x2 x3 x4 x5] i (0 : Int)) x1 (8 : Nat) (0 : Nat) (RMem.stM { n := n9, S := g9, k := n10, G := g10, L := h10, off := x6, left := x7, count := x8 } x1 (7 : Int) (0 : Int))).fst x0 x1).left)), (.i ((RMem.flM (rstL (fun (i : Nat) => List.getD [r_rLine_0 x2 x3 x4 x5, r_rLine_1 x2 x3 x4 x5, r_rLine_2 x2 x3 x4 x5, r_rLine_3 x2 x3 x4 x5, r_rLine_4 x2 x3 x4 x5, r_rLine_5 x2 x3 x4 x5, r_rLine_6 x2 x3 x4 x5, r_rLine_7 x2 x3 x4 x5] i (0 : Int)) x1 (8 : Nat) (0 : Nat) (RMem.stM { n := n9, S := g9, k := n10, G := g10, L := h10, off := x6, left := x7, count := x8 } x1 (7 : Int) (0 : Int))).fst x0 x1).count)), (.r ((RMem.flM (rstL (fun (i : Nat) => List.getD [r_rLine_0 x2 x3 x4 x5, r_rLine_1 x2 x3 x4 x5, r_rLine_2 x2 x3 x4 x5, r_rLine_3 x2 x3 x4 x5, r_rLine_4 x2 x3 x4 x5, r_rLine_5 x2 x3 x4 x5, r_rLine_6 x2 x3 x4 x5, r_rLine_7 x2 x3 x4 x5] i (0 : Int)) x1 (8 : Nat) (0 : Nat) (RMem.stM { n := n9, S := g9, k := n10, G := g10, L := h10, off := x6, left := x7, count := x8 } x1 (7 : Int) (0 : Int))).fst x0 x1).n) ((RMem.flM (rstL (fun (i : Nat) => List.getD [r_rLine_0 x2 x3 x4 x5, r_rLine_1 x2 x3 x4 x5, r_rLine_2 x2 x3 x4 x5, r_rLine_3 x2 x3 x4 x5, r_rLine_4 x2 x3 x4 x5, r_rLine_5 x2 x3 x4 x5, r_rLine_6 x2 x3 x4 x5, r_rLine_7 x2 x3 x4 x5] i (0 : Int)) x1 (8 : Nat) (0 : Nat) (RMem.stM { n := n9, S := g9, k := n10, G := g10, L := h10, off := x6, left := x7, count := x8 } x1 (7 : Int) (0 : Int))).fst x0 x1).S)), (.q ((RMem.flM (rstL (fun (i : Nat) => List.getD [r_rLine_0 x2 x3 x4 x5, r_rLine_1 x2 x3 x4 x5, r_rLine_2 x2 x3 x4 x5, r_rLine_3 x2 x3 x4 x5, r_rLine_4 x2 x3 x4 x5, r_rLine_5 x2 x3 x4 x5, r_rLine_6 x2 x3 x4 x5, r_rLine_7 x2 x3 x4 x5] i (0 : Int)) x1 (8 : Nat) (0 : Nat) (RMem.stM { n := n9, S := g9, k := n10, G := g10, L := h10, off := x6, left := x7, count := x8 } x1 (7 : Int) (0 : Int))).fst x0 x1).k) ((RMem.flM (rstL (fun (i : Nat) => List.getD [r_rLine_0 x2 x3 x4 x5, r_rLine_1 x2 x3 x4 x5, r_rLine_2 x2 x3 x4 x5, r_rLine_3 x2 x3 x4 x5, r_rLine_4 x2 x3 x4 x5, r_rLine_5 x2 x3 x4 x5, r_rLine_6 x2 x3 x4 x5, r_rLine_7 x2 x3 x4 x5] i (0 : Int)) x1 (8 : Nat) (0 : Nat) (RMem.stM { n := n9, S := g9, k := n10, G := g10, L := h10, off := x6, left := x7, count := x8 } x1 (7 : Int) (0 : Int))).fst x0 x1).G) ((0 : Nat)) ((10 : Nat)) ((RMem.flM (rstL (fun (i : Nat) => List.getD [r_rLine_0 x2 x3 x4 x5, r_rLine_1 x2 x3 x4 x5, r_rLine_2 x2 x3 x4 x5, r_rLine_3 x2 x3 x4 x5, r_rLine_4 x2 x3 x4 x5, r_rLine_5 x2 x3 x4 x5, r_rLine_6 x2 x3 x4 x5, r_rLine_7 x2 x3 x4 x5] i (0 : Int)) x1 (8 : Nat) (0 : Nat) (RMem.stM { n := n9, S := g9, k := n10, G := g10, L := h10, off := x6, left := x7, count := x8 } x1 (7 : Int) (0 : Int))).fst x0 x1).L))])
 (.br 0 (pdec (RMem.Ok (900000 : Int) (RMem.flM (rstL (fun (i : Nat) => List.getD [r_rLine_0 x2 x3 x4 x5, r_rLine_1 x2 x3 x4 x5, r_rLine_2 x2 x3 x4 x5, r_rLine_3 x2 x3 x4 x5, r_rLine_4 x2 x3 x4 x5, r_rLine_5 x2 x3 x4 x5, r_rLine_6 x2 x3 x4 x5, r_rLine_7 x2 x3 x4 x5] i (0 : Int)) x1 (8 : Nat) (0 : Nat) (RMem.stM { n := n9, S := g9, k := n10, G := g10, L := h10, off := x6, left := x7, count := x8 } x1 (7 : Int) (0 : Int))).fst x0 x1)))
 (.ok [(.i (RMem.feC (RMem.flM (rstL (fun (i : Nat) => List.getD [r_rLine_0 x2 x3 x4 x5, r_rLine_1 x2 x3 x4 x5, r_rLine_2 x2 x3 x4 x5, r_rLine_3 x2 x3 x4 x5, r_rLine_4 x2 x3 x4 x5, r_rLine_5 x2 x3 x4 x5, r_rLine_6 x2 x3 x4 x5, r_rLine_7 x2 x3 x4 x5] i (0 : Int)) x1 (8 : Nat) (0 : Nat) (RMem.stM { n := n9, S := g9, k := n10, G := g10, L := h10, off := x6, left := x7, count := x8 } x1 (7 : Int) (0 : Int))).fst x0 x1) x0)), (.b ((RMem.feM (RMem.flM (rstL (fun (i : Nat) => List.getD [r_rLine_0 x2 x3 x4 x5, r_rLine_1 x2 x3 x4 x5, r_rLine_2 x2 x3 x4 x5, r_rLine_3 x2 x3 x4 x5, r_rLine_4 x2 x3 x4 x5, r_rLine_5 x2 x3 x4 x5, r_rLine_6 x2 x3 x4 x5, r_rLine_7 x2 x3 x4 x5] i (0 : Int)) x1 (8 : Nat) (0 : Nat) (RMem.stM { n := n9, S := g9, k := n10, G := g10, L := h10, off := x6, left := x7, count := x8 } x1 (7 : Int) (0 : Int))).fst x0 x1) x0).off)), (.i ((RMem.feM (RMem.flM (rstL (fun (i : Nat) => List.getD [r_rLine_0 x2 x3 x4 x5, r_rLine_1 x2 x3 x4 x5, r_rLine_2 x2 x3 x4 x5, r_rLine_3 x2 x3 x4 x5, r_rLine_4 x2 x3 x4 x5, r_rLine_5 x2 x3 x4 x5, r_rLine_6 x2 x3 x4 x5, r_rLine_7 x2 x3 x4 x5] i (0 : Int)) x1 (8 : Nat) (0 : Nat) (RMem.stM { n := n9, S := g9, k := n10, G := g10, L := h10, off := x6, left := x7, count := x8 } x1 (7 : Int) (0 : Int))).fst x0 x1) x0).left)), (.i ((RMem.feM (RMem.flM (rstL (fun (i : Nat) => List.getD [r_rLine_0 x2 x3 x4 x5, r_rLine_1 x2 x3 x4 x5, r_rLine_2 x2 x3 x4 x5, r_rLine_3 x2 x3 x4 x5, r_rLine_4 x2 x3 x4 x5, r_rLine_5 x2 x3 x4 x5, r_rLine_6 x2 x3 x4 x5, r_rLine_7 x2 x3 x4 x5] i (0 : Int)) x1 (8 : Nat) (0 : Nat) (RMem.stM { n := n9, S := g9, k := n10, G := g10, L := h10, off := x6, left := x7, count := x8 } x1 (7 : Int) (0 : Int))).fst x0 x1) x0).count)), (.r ((RMem.feM (RMem.flM (rstL (fun (i : Nat) => List.getD [r_rLine_0 x2 x3 x4 x5, r_rLine_1 x2 x3 x4 x5, r_rLine_2 x2 x3 x4 x5, r_rLine_3 x2 x3 x4 x5, r_rLine_4 x2 x3 x4 x5, r_rLine_5 x2 x3 x4 x5, r_rLine_6 x2 x3 x4 x5, r_rLine_7 x2 x3 x4 x5] i (0 : Int)) x1 (8 : Nat) (0 : Nat) (RMem.stM { n := n9, S := g9, k := n10, G := g10, L := h10, off := x6, left := x7, count := x8 } x1 (7 : Int) (0 : Int))).fst x0 x1) x0).n) ((RMem.feM (RMem.flM (rstL (fun (i : Nat) => List.getD [r_rLine_0 x2 x3 x4 x5, r_rLine_1 x2 x3 x4 x5, r_rLine_2 x2 x3 x4 x5, r_rLine_3 x2 x3 x4 x5, r_rLine_4 x2 x3 x4 x5, r_rLine_5 x2 x3 x4 x5, r_rLine_6 x2 x3 x4 x5, r_rLine_7 x2 x3 x4 x5] i (0 : Int)) x1 (8 : Nat) (0 : Nat) (RMem.stM { n := n9, S := g9, k := n10, G := g10, L := h10, off := x6, left := x7, count := x8 } x1 (7 : Int) (0 : Int))).fst x0 x1) x0).S)), (.q ((RMem.feM (RMem.flM (rstL (fun (i : Nat) => List.getD [r_rLine_0 x2 x3 x4 x5, r_rLine_1 x2 x3 x4 x5, r_rLine_2 x2 x3 x4 x5, r_rLine_3 x2 x3 x4 x5, r_rLine_4 x2 x3 x4 x5, r_rLine_5 x2 x3 x4 x5, r_rLine_6 x2 x3 x4 x5, r_rLine_7 x2 x3 x4 x5] i (0 : Int)) x1 (8 : Nat) (0 : Nat) (RMem.stM { n := n9, S := g9, k := n10, G := g10, L := h10, off := x6, left := x7, count := x8 } x1 (7 : Int) (0 : Int))).fst x0 x1) x0).k) ((RMem.feM (RMem.flM (rstL (fun (i : Nat) => List.getD [r_rLine_0 x2 x3 x4 x5, r_rLine_1 x2 x3 x4 x5, r_rLine_2 x2 x3 x4 x5, r_rLine_3 x2 x3 x4 x5, r_rLine_4 x2 x3 x4 x5, r_rLine_5 x2 x3 x4 x5, r_rLine_6 x2 x3 x4 x5, r_rLine_7 x2 x3 x4 x5] i (0 : Int)) x1 (8 : Nat) (0 : Nat) (RMem.stM { n := n9, S := g9, k := n10, G := g10, L := h10, off := x6, left := x7, count := x8 } x1 (7 : Int) (0 : Int))).fst x0 x1) x0).G) ((0 : Nat)) ((10 : Nat)) ((RMem.feM (RMem.flM (rstL (fun (i : Nat) => List.getD [r_rLine_0 x2 x3 x4 x5, r_rLine_1 x2 x3 x4 x5, r_rLine_2 x2 x3 x4 x5, r_rLine_3 x2 x3 x4 x5, r_rLine_4 x2 x3 x4 x5, r_rLine_5 x2 x3 x4 x5, r_rLine_6 x2 x3 x4 x5, r_rLine_7 x2 x3 x4 x5] i (0 : Int)) x1 (8 : Nat) (0 : Nat) (RMem.stM { n := n9, S := g9, k := n10, G := g10, L := h10, off := x6, left := x7, count := x8 } x1 (7 : Int) (0 : Int))).fst x0 x1) x0).L))])
 (.no)))
 (.no)))
 (.no)))
 (.no)))))
 (.no)
noncomputable def y_rWrite : Nat → Option Nat := (syOf3 [19, 23, 26, 31, 52] [] [])
noncomputable def TL_rWrite (l : List At) : Tr (List At) := T_rWrite (aI l 0) (aI l 1) (aI l 2) (aI l 3) (aI l 4) (aI l 5) (aB l 6) (aI l 7) (aI l 8) (aRn l 9) (aRg l 9) (aRn l 10) (aRg l 10) (aMh l 10 0 10)
theorem e_rWrite (l : List At) : (call Try.prog Γ_rFind y_rWrite Lp_rWrite_8 100 Try.f27 (mkV ish_rWrite l) (mkH ish_rWrite l)).bind (leafO 4 osh_rWrite) = TL_rWrite l := by kernel_rfl
end Go.Proofs.Ytgmhggipaopoiaa.G
end

/-
  The reference's Write and Find, in plain words.
-/
section
namespace Go.Proofs.Ytgmhggipaopoiaa.G
open Go Go.AM Go.Proofs

noncomputable def rwrM (w : Nat → Int) (m : RMem) (core slot : Int) : RMem × Int :=
  if m.stC slot 7 ≠ 0 then (m.stM slot 7 0, m.stC slot 7) else
  if (rstL w slot 8 0 (m.stM slot 7 0)).2 ≠ 0 then rstL w slot 8 0 (m.stM slot 7 0) else
  if (rstL w slot 8 0 (m.stM slot 7 0)).1.flC core slot ≠ 0 then ((rstL w slot 8 0 (m.stM slot 7 0)).1.flM core slot, (rstL w slot 8 0 (m.stM slot 7 0)).1.flC core slot) else
  (((rstL w slot 8 0 (m.stM slot 7 0)).1.flM core slot).feM core, ((rstL w slot 8 0 (m.stM slot 7 0)).1.flM core slot).feC core)

noncomputable def rlW (x2 x3 x4 x5 : Int) : Nat → Int := fun i => [r_rLine_0 x2 x3 x4 x5, r_rLine_1 x2 x3 x4 x5, r_rLine_2 x2 x3 x4 x5, r_rLine_3 x2 x3 x4 x5, r_rLine_4 x2 x3 x4 x5, r_rLine_5 x2 x3 x4 x5, r_rLine_6 x2 x3 x4 x5, r_rLine_7 x2 x3 x4 x5].getD i 0

theorem rstL_ok {w : Nat → Int} {s : Int} : ∀ (k i : Nat) (M : RMem) (K : Int), M.Ok K → K + k ≤ 900000 → (rstL w s k i M).1.Ok (K + k)
  | 0, _, _, _, h, _ => h.mono (by omega)
  | k + 1, i, M, K, h, hK => by
    rw [rstL]
    have h1 := rstM_ok (i := s) (w := (i : Int)) (v := w i) h (by omega)
    split
    · exact (rstL_ok k (i + 1) _ (K + 1) h1 (by omega)).mono (by omega)
    · exact h1.mono (by omega)

def rbadW (x1 c : Int) : Bool := decide (x1 < 0) || (decide (x1 > 1) || c != 0)

theorem t_rWrite (x0 x1 x2 x3 x4 x5 : Int) (m : RMem) (hm : m.Ok 880000) (hk : ok_rLine x2 x3 x4 x5 = true) :
    (T_rWrite x0 x1 x2 x3 x4 x5 m.off m.left m.count m.n m.S m.k m.G m.L).sat fun r => AtsEq r (bif rbadW x1 (r_rLine_8 x2 x3 x4 x5) then .i 1 :: m.ats else .i (rwrM (rlW x2 x3 x4 x5) m x0 x1).2 :: (rwrM (rlW x2 x3 x4 x5) m x0 x1).1.ats) := by
  have ok1 := rstM_ok (i := x1) (w := 7) (v := 0) hm (by decide)
  have ok2 := rstL_ok (w := rlW x2 x3 x4 x5) (s := x1) 8 0 _ _ ok1 (by decide)
  have ok3 := rflM_ok (c := x0) (i := x1) ok2
  have bad : rbadW x1 (r_rLine_8 x2 x3 x4 x5) = true → AtsEq (.i 1 :: m.ats) (bif rbadW x1 (r_rLine_8 x2 x3 x4 x5) then .i 1 :: m.ats else .i (rwrM (rlW x2 x3 x4 x5) m x0 x1).2 :: (rwrM (rlW x2 x3 x4 x5) m x0 x1).1.ats) := fun h => by rw [h]; exact AtsEq.refl _
  unfold T_rWrite
  refine brT hk (brD (fun h1 => Tr.sat_ok.2 (bad (by unfold rbadW; rw [decide_eq_true h1]; rfl))) (fun h1 => brD (fun h2 => Tr.sat_ok.2 (bad (by unfold rbadW; rw [decide_eq_true h2]; simp))) (fun h2 => brNE (fun h3 => Tr.sat_ok.2 (bad (by unfold rbadW; rw [show (r_rLine_8 x2 x3 x4 x5 != 0) = true by simpa using h3]; simp))) (fun h3 => ?_))))
  have hb : rbadW x1 (r_rLine_8 x2 x3 x4 x5) = false := by unfold rbadW; rw [decide_eq_false h1, decide_eq_false h2, h3]; rfl
  rw [hb]
  show (_ : Tr (List At)).sat fun r => AtsEq r (.i (rwrM (rlW x2 x3 x4 x5) m x0 x1).2 :: (rwrM (rlW x2 x3 x4 x5) m x0 x1).1.ats)
  unfold rwrM
  refine brT (pdec_yes (hm.mono (by decide))) (brNE (fun h1 => Tr.sat_ok.2 ?_) (fun h1 => brT (pdec_yes ⟨Int.le_refl _, by decide, ok1.mono (by decide)⟩) (brC (fun h2 => Tr.sat_ok.2 ?_) (fun h2 => brT ?_ (brC (fun h3 => Tr.sat_ok.2 ?_) (fun h3 => brT ?_ (Tr.sat_ok.2 ?_)))))))
  · rw [if_pos h1]; exact AtsEq.refl _
  · have h2' : (rstL (rlW x2 x3 x4 x5) x1 8 0 (m.stM x1 7 0)).2 ≠ 0 := by
      have e : ((rstL (rlW x2 x3 x4 x5) x1 8 0 (m.stM x1 7 0)).2 != 0) = true := h2
      simpa using e
    rw [if_neg (fun hh => hh h1), if_pos h2']
    exact AtsEq.refl _
  · exact pdec_yes (ok2.mono (by decide))
  · have h2' : ¬ (rstL (rlW x2 x3 x4 x5) x1 8 0 (m.stM x1 7 0)).2 ≠ 0 := by
      have e : ((rstL (rlW x2 x3 x4 x5) x1 8 0 (m.stM x1 7 0)).2 != 0) = false := h2
      simpa using e
    have h3' : (rstL (rlW x2 x3 x4 x5) x1 8 0 (m.stM x1 7 0)).1.flC x0 x1 ≠ 0 := by
      have e : ((rstL (rlW x2 x3 x4 x5) x1 8 0 (m.stM x1 7 0)).1.flC x0 x1 != 0) = true := h3
      simpa using e
    rw [if_neg (fun hh => hh h1), if_neg h2', if_pos h3']
    exact AtsEq.refl _
  · exact pdec_yes (ok3.mono (by decide))
  · have h2' : ¬ (rstL (rlW x2 x3 x4 x5) x1 8 0 (m.stM x1 7 0)).2 ≠ 0 := by
      have e : ((rstL (rlW x2 x3 x4 x5) x1 8 0 (m.stM x1 7 0)).2 != 0) = false := h2
      simpa using e
    have h3' : ¬ (rstL (rlW x2 x3 x4 x5) x1 8 0 (m.stM x1 7 0)).1.flC x0 x1 ≠ 0 := by
      have e : ((rstL (rlW x2 x3 x4 x5) x1 8 0 (m.stM x1 7 0)).1.flC x0 x1 != 0) = false := h3
      simpa using e
    rw [if_neg (fun hh => hh h1), if_neg h2', if_neg h3']
    exact AtsEq.refl _

noncomputable def rwrA (w : Nat → Int) (c : Int) (m : RMem) (core slot : Int) : RMem × Int := bif rbadW slot c then (m, 1) else rwrM w m core slot

noncomputable def F2_rWrite (l : List At) : Tr (List At) := .br 0 (pdec (RMem.Ok 880000 (mmr l 6))) (.br 0 (ok_rLine (aI l 2) (aI l 3) (aI l 4) (aI l 5))
  (.ok (.i (rwrA (rlW (aI l 2) (aI l 3) (aI l 4) (aI l 5)) (r_rLine_8 (aI l 2) (aI l 3) (aI l 4) (aI l 5)) (mmr l 6) (aI l 0) (aI l 1)).2 :: (rwrA (rlW (aI l 2) (aI l 3) (aI l 4) (aI l 5)) (r_rLine_8 (aI l 2) (aI l 3) (aI l 4) (aI l 5)) (mmr l 6) (aI l 0) (aI l 1)).1.ats)) .no) .no
theorem s2_rWrite : SpecF Try.prog 27 (.eff (locF ish_rWrite osh_rWrite F2_rWrite)) :=
  spec_loc (sy := y_rWrite) (fuel := 100) (Lp := Lp_rWrite_8) o_rFind mixed ⟨Try.func27, by kernel_rfl, by kernel_rfl⟩ ish_rWrite osh_rWrite lk_rWrite_8 (hT_of e_rWrite fun l r h => by
    obtain ⟨h1, h⟩ := guard_val h
    obtain ⟨h2, h⟩ := guard_val h
    have key := t_rWrite (aI l 0) (aI l 1) (aI l 2) (aI l 3) (aI l 4) (aI l 5) (mmr l 6) (of_pdec h1) h2
    have := val_ok h
    subst this
    unfold rwrA
    cases hb : rbadW (aI l 1) (r_rLine_8 (aI l 2) (aI l 3) (aI l 4) (aI l 5)) with
    | true => rw [hb] at key; exact key
    | false => rw [hb] at key; exact key)

/-! ### Find -/

def ron16 {α : Type} (f : Int → Int → Int → Int → Int → Int → Int → Int → Int → Int → Int → Int → Int → Int → Int → Int → α) (m : RMem) : α :=
  f (m.ldW 0 0) (m.ldW 0 1) (m.ldW 0 2) (m.ldW 0 3) (m.ldW 0 4) (m.ldW 0 5) (m.ldW 0 6) (m.ldW 0 7) (m.ldW 1 0) (m.ldW 1 1) (m.ldW 1 2) (m.ldW 1 3) (m.ldW 1 4) (m.ldW 1 5) (m.ldW 1 6) (m.ldW 1 7)
def rfdC (m : RMem) : Int := bif m.ldC 0 != 0 then m.ldC 0 else bif m.ldC 1 != 0 then m.ldC 1 else bif !(ron16 r_rBest_5 m) then 20 else 0
def rfdI (f : Int → Int → Int → Int → Int → Int → Int → Int → Int → Int → Int → Int → Int → Int → Int → Int → Int) (m : RMem) : Int := bif rfdC m == 0 then ron16 f m else 0

noncomputable def F2_rFind (l : List At) : Tr (List At) := .br 0 (pdec (RMem.Ok 900000 (mmr l 0))) (.br 0 (ron16 ok_rBest (mmr l 0)) (.ok [.i (rfdI r_rBest_0 (mmr l 0)), .i (rfdI r_rBest_1 (mmr l 0)), .i (rfdI r_rBest_2 (mmr l 0)), .i (rfdI r_rBest_3 (mmr l 0)), .i (rfdI r_rBest_4 (mmr l 0)), .i (rfdC (mmr l 0))]) .no) .no

theorem t_rFind (m : RMem) (ok : m.Ok 900000) (h : ron16 ok_rBest m = true) : (T_rFind m.off m.left m.count m.n m.S m.k m.G m.L).sat fun r => AtsEq r [.i (rfdI r_rBest_0 m), .i (rfdI r_rBest_1 m), .i (rfdI r_rBest_2 m), .i (rfdI r_rBest_3 m), .i (rfdI r_rBest_4 m), .i (rfdC m)] := by
  unfold T_rFind rFind_c7 rFind_c6 rFind_c5 rFind_c4 rFind_c3 rFind_c2 rFind_c1 rFind_c0
  refine brT (pdec_yes ok) (brC (fun h1 => Tr.sat_ok.2 ?_) (fun h1 => brT (pdec_yes ok) (brC (fun h2 => Tr.sat_ok.2 ?_) (fun h2 => brT h (brC (fun h3 => Tr.sat_ok.2 ?_) (fun h3 => Tr.sat_ok.2 ?_))))))
  · have h1' : (m.ldC 0 != 0) = true := h1
    have e : rfdC m = m.ldC 0 := by unfold rfdC; rw [h1']; rfl
    have e0 : (rfdC m == 0) = false := by rw [e]; simpa using h1'
    unfold rfdI
    rw [e0, e]
    exact AtsEq.refl _
  · have h1' : (m.ldC 0 != 0) = false := h1
    have h2' : (m.ldC 1 != 0) = true := h2
    have e : rfdC m = m.ldC 1 := by unfold rfdC; rw [h1', h2']; rfl
    have e0 : (rfdC m == 0) = false := by rw [e]; simpa using h2'
    unfold rfdI
    rw [e0, e]
    exact AtsEq.refl _
  · have h1' : (m.ldC 0 != 0) = false := h1
    have h2' : (m.ldC 1 != 0) = false := h2
    have h3' : (!(ron16 r_rBest_5 m)) = true := h3
    have e : rfdC m = 20 := by unfold rfdC; rw [h1', h2', h3']; rfl
    unfold rfdI
    rw [e]
    exact AtsEq.refl _
  · have h1' : (m.ldC 0 != 0) = false := h1
    have h2' : (m.ldC 1 != 0) = false := h2
    have h3' : (!(ron16 r_rBest_5 m)) = false := h3
    have e : rfdC m = 0 := by unfold rfdC; rw [h1', h2', h3']; rfl
    unfold rfdI
    rw [e]
    exact AtsEq.refl _

theorem s2_rFind : SpecF Try.prog 30 (.read (locR ish_rFind osh_rFind F2_rFind)) :=
  spec_read (sy := y_rFind) (fuel := 100) (Lp := noLoops) o_RR2 mixed ⟨Try.func30, by kernel_rfl, by kernel_rfl⟩ ish_rFind osh_rFind (by kernel_rfl) (noLoops_ok _) (hT_of e_rFind fun l r h => by
    obtain ⟨h0, h⟩ := guard_val h
    obtain ⟨h1, h⟩ := guard_val h
    have := val_ok h
    subst this
    exact t_rFind (mmr l 0) (of_pdec h0) h1)
noncomputable def Γ_X3 : Specs := upd (upd Γ_rFind 27 (.eff (locF ish_rWrite osh_rWrite F2_rWrite))) 30 (.read (locR ish_rFind osh_rFind F2_rFind))
theorem o_X3 : SpecOK Try.prog Γ_X3 := SpecOK.upd (SpecOK.upd o_rFind s2_rWrite) s2_rFind
end Go.Proofs.Ytgmhggipaopoiaa.G
end

/-
  What functions of the seat compute, printed by a program from the explorer.
-/
section
namespace Go.Proofs.Ytgmhggipaopoiaa.G
open Go Go.AM Go.Proofs
/-! ### SuperWrites -/

noncomputable def ish_SuperWrites : FSh := ⟨[.v true [.k (.n .i64), .k (.n .i64)], .v true [.k (.n .i64), .k (.n .i64), .k (.n .i64), .k (.n .i64), .k (.n .i64), .k (.n .i64), .k (.n .i64), .k (.n .i64)], .v true [.k (.n .i64), .vw 0 1]], [.rows [.n .i64] false]⟩
noncomputable def SuperWrites_c0 (x0 : Int) (x1 : Int) (x2 : Int) (x3 : Int) (x4 : Int) (x5 : Int) (x6 : Int) (x7 : Int) (x8 : Int) (x9 : Int) (x10 : Int) (n11 : Nat) (g11 : Nat → Nat → Int) : Bool := fdI r_sBest_2 (Mem.crM (wrA (slW x6 x7 x8 x9) (r_sLine_8 x6 x7 x8 x9) (Mem.fuM (wrA (slW x2 x3 x4 x5) (r_sLine_8 x2 x3 x4 x5) (newM (64 : Nat)) (0 : Int) (0 : Int)).fst x10) x0 x1).fst (fun (j : Nat) => g11 ((0 : Nat) + j) (0 : Nat)) n11) == rfdI r_rBest_2 (RMem.crM (rwrA (rlW x6 x7 x8 x9) (r_rLine_8 x6 x7 x8 x9) (RMem.fuM (rwrA (rlW x2 x3 x4 x5) (r_rLine_8 x2 x3 x4 x5) (rnewR (64 : Nat) fun (_ _ : Nat) => (0 : Int)) (0 : Int) (0 : Int)).fst x10) x0 x1).fst (fun (j : Nat) => g11 ((0 : Nat) + j) (0 : Nat)) n11) && (fdI r_sBest_3 (Mem.crM (wrA (slW x6 x7 x8 x9) (r_sLine_8 x6 x7 x8 x9) (Mem.fuM (wrA (slW x2 x3 x4 x5) (r_sLine_8 x2 x3 x4 x5) (newM (64 : Nat)) (0 : Int) (0 : Int)).fst x10) x0 x1).fst (fun (j : Nat) => g11 ((0 : Nat) + j) (0 : Nat)) n11) == rfdI r_rBest_3 (RMem.crM (rwrA (rlW x6 x7 x8 x9) (r_rLine_8 x6 x7 x8 x9) (RMem.fuM (rwrA (rlW x2 x3 x4 x5) (r_rLine_8 x2 x3 x4 x5) (rnewR (64 : Nat) fun (_ _ : Nat) => (0 : Int)) (0 : Int) (0 : Int)).fst x10) x0 x1).fst (fun (j : Nat) => g11 ((0 : Nat) + j) (0 : Nat)) n11) && Bool.true)
noncomputable def SuperWrites_c1 (x0 : Int) (x1 : Int) (x2 : Int) (x3 : Int) (x4 : Int) (x5 : Int) (x6 : Int) (x7 : Int) (x8 : Int) (x9 : Int) (x10 : Int) (n11 : Nat) (g11 : Nat → Nat → Int) : Bool := fdI r_sBest_1 (Mem.crM (wrA (slW x6 x7 x8 x9) (r_sLine_8 x6 x7 x8 x9) (Mem.fuM (wrA (slW x2 x3 x4 x5) (r_sLine_8 x2 x3 x4 x5) (newM (64 : Nat)) (0 : Int) (0 : Int)).fst x10) x0 x1).fst (fun (j : Nat) => g11 ((0 : Nat) + j) (0 : Nat)) n11) == rfdI r_rBest_1 (RMem.crM (rwrA (rlW x6 x7 x8 x9) (r_rLine_8 x6 x7 x8 x9) (RMem.fuM (rwrA (rlW x2 x3 x4 x5) (r_rLine_8 x2 x3 x4 x5) (rnewR (64 : Nat) fun (_ _ : Nat) => (0 : Int)) (0 : Int) (0 : Int)).fst x10) x0 x1).fst (fun (j : Nat) => g11 ((0 : Nat) + j) (0 : Nat)) n11) && (SuperWrites_c0 x0 x1 x2 x3 x4 x5 x6 x7 x8 x9 x10 n11 g11)
noncomputable def SuperWrites_c2 (x0 : Int) (x1 : Int) (x2 : Int) (x3 : Int) (x4 : Int) (x5 : Int) (x6 : Int) (x7 : Int) (x8 : Int) (x9 : Int) (x10 : Int) (n11 : Nat) (g11 : Nat → Nat → Int) : Bool := fdI r_sBest_0 (Mem.crM (wrA (slW x6 x7 x8 x9) (r_sLine_8 x6 x7 x8 x9) (Mem.fuM (wrA (slW x2 x3 x4 x5) (r_sLine_8 x2 x3 x4 x5) (newM (64 : Nat)) (0 : Int) (0 : Int)).fst x10) x0 x1).fst (fun (j : Nat) => g11 ((0 : Nat) + j) (0 : Nat)) n11) == rfdI r_rBest_0 (RMem.crM (rwrA (rlW x6 x7 x8 x9) (r_rLine_8 x6 x7 x8 x9) (RMem.fuM (rwrA (rlW x2 x3 x4 x5) (r_rLine_8 x2 x3 x4 x5) (rnewR (64 : Nat) fun (_ _ : Nat) => (0 : Int)) (0 : Int) (0 : Int)).fst x10) x0 x1).fst (fun (j : Nat) => g11 ((0 : Nat) + j) (0 : Nat)) n11) && (SuperWrites_c1 x0 x1 x2 x3 x4 x5 x6 x7 x8 x9 x10 n11 g11)
noncomputable def SuperWrites_c3 (x0 : Int) (x1 : Int) (x2 : Int) (x3 : Int) (x4 : Int) (x5 : Int) (x6 : Int) (x7 : Int) (x8 : Int) (x9 : Int) (x10 : Int) : Bool := fdI r_sBest_1 (wrA (slW x6 x7 x8 x9) (r_sLine_8 x6 x7 x8 x9) (Mem.fuM (wrA (slW x2 x3 x4 x5) (r_sLine_8 x2 x3 x4 x5) (newM (64 : Nat)) (0 : Int) (0 : Int)).fst x10) x0 x1).fst == rfdI r_rBest_1 (rwrA (rlW x6 x7 x8 x9) (r_rLine_8 x6 x7 x8 x9) (RMem.fuM (rwrA (rlW x2 x3 x4 x5) (r_rLine_8 x2 x3 x4 x5) (rnewR (64 : Nat) fun (_ _ : Nat) => (0 : Int)) (0 : Int) (0 : Int)).fst x10) x0 x1).fst && (fdI r_sBest_2 (wrA (slW x6 x7 x8 x9) (r_sLine_8 x6 x7 x8 x9) (Mem.fuM (wrA (slW x2 x3 x4 x5) (r_sLine_8 x2 x3 x4 x5) (newM (64 : Nat)) (0 : Int) (0 : Int)).fst x10) x0 x1).fst == rfdI r_rBest_2 (rwrA (rlW x6 x7 x8 x9) (r_rLine_8 x6 x7 x8 x9) (RMem.fuM (rwrA (rlW x2 x3 x4 x5) (r_rLine_8 x2 x3 x4 x5) (rnewR (64 : Nat) fun (_ _ : Nat) => (0 : Int)) (0 : Int) (0 : Int)).fst x10) x0 x1).fst && (fdI r_sBest_3 (wrA (slW x6 x7 x8 x9) (r_sLine_8 x6 x7 x8 x9) (Mem.fuM (wrA (slW x2 x3 x4 x5) (r_sLine_8 x2 x3 x4 x5) (newM (64 : Nat)) (0 : Int) (0 : Int)).fst x10) x0 x1).fst == rfdI r_rBest_3 (rwrA (rlW x6 x7 x8 x9) (r_rLine_8 x6 x7 x8 x9) (RMem.fuM (rwrA (rlW x2 x3 x4 x5) (r_rLine_8 x2 x3 x4 x5) (rnewR (64 : Nat) fun (_ _ : Nat) => (0 : Int)) (0 : Int) (0 : Int)).fst x10) x0 x1).fst && Bool.true))
noncomputable def SuperWrites_c4 (x0 : Int) (x1 : Int) (x2 : Int) (x3 : Int) (x4 : Int) (x5 : Int) (x6 : Int) (x7 : Int) (x8 : Int) (x9 : Int) (x10 : Int) : Bool := fdI r_sBest_0 (wrA (slW x6 x7 x8 x9) (r_sLine_8 x6 x7 x8 x9) (Mem.fuM (wrA (slW x2 x3 x4 x5) (r_sLine_8 x2 x3 x4 x5) (newM (64 : Nat)) (0 : Int) (0 : Int)).fst x10) x0 x1).fst == rfdI r_rBest_0 (rwrA (rlW x6 x7 x8 x9) (r_rLine_8 x6 x7 x8 x9) (RMem.fuM (rwrA (rlW x2 x3 x4 x5) (r_rLine_8 x2 x3 x4 x5) (rnewR (64 : Nat) fun (_ _ : Nat) => (0 : Int)) (0 : Int) (0 : Int)).fst x10) x0 x1).fst && (SuperWrites_c3 x0 x1 x2 x3 x4 x5 x6 x7 x8 x9 x10)
noncomputable def SuperWrites_c5 (x0 : Int) (x1 : Int) (x2 : Int) (x3 : Int) (x4 : Int) (x5 : Int) (x6 : Int) (x7 : Int) (x8 : Int) (x9 : Int) (x10 : Int) : Bool := !(SuperWrites_c4 x0 x1 x2 x3 x4 x5 x6 x7 x8 x9 x10)
noncomputable def T_SuperWrites (x0 : Int) (x1 : Int) (x2 : Int) (x3 : Int) (x4 : Int) (x5 : Int) (x6 : Int) (x7 : Int) (x8 : Int) (x9 : Int) (x10 : Int) (n11 : Nat) (g11 : Nat → Nat → Int) : Tr (List At) :=
 .br 0 (Bool.true)
 (.br 0 (Bool.false)
 (.br 0 (Bool.false)
 (.ok [(.b (Bool.false))])
 (.ok [(.b (Bool.false))]))
 (.br 0 (Bool.false)
 (.br 0 (pdec (Mem.Ok (880000 : Int) (newM (64 : Nat))))
 (.br 0 (ok_sLine x2 x3 x4 x5)
 (.no)
 (.no))
 (.no))
 (.br 0 (pdec (Mem.Ok (880000 : Int) (newM (64 : Nat))))
 (.br 0 (ok_sLine x2 x3 x4 x5)
 (.br 0 (pdec (RMem.Ok (880000 : Int) (rnewR (64 : Nat) fun (_ _ : Nat) => (0 : Int))))
 (.br 0 (ok_rLine x2 x3 x4 x5)
 (.br 0 (pdec (Mem.Ok (880000 : Int) (Mem.fuM (wrA (slW x2 x3 x4 x5) (r_sLine_8 x2 x3 x4 x5) (newM (64 : Nat)) (0 : Int) (0 : Int)).fst x10)))
 (.br 0 (ok_sLine x6 x7 x8 x9)
 (.br 0 (pdec (RMem.Ok (880000 : Int) (RMem.fuM (rwrA (rlW x2 x3 x4 x5) (r_rLine_8 x2 x3 x4 x5) (rnewR (64 : Nat) fun (_ _ : Nat) => (0 : Int)) (0 : Int) (0 : Int)).fst x10)))
 (.br 0 (ok_rLine x6 x7 x8 x9)
 (.br 72 ((wrA (slW x2 x3 x4 x5) (r_sLine_8 x2 x3 x4 x5) (newM (64 : Nat)) (0 : Int) (0 : Int)).snd != (rwrA (rlW x2 x3 x4 x5) (r_rLine_8 x2 x3 x4 x5) (rnewR (64 : Nat) fun (_ _ : Nat) => (0 : Int)) (0 : Int) (0 : Int)).snd)
 (.ok [(.b (Bool.false))])
 (.br 77 ((wrA (slW x6 x7 x8 x9) (r_sLine_8 x6 x7 x8 x9) (Mem.fuM (wrA (slW x2 x3 x4 x5) (r_sLine_8 x2 x3 x4 x5) (newM (64 : Nat)) (0 : Int) (0 : Int)).fst x10) x0 x1).snd != (rwrA (rlW x6 x7 x8 x9) (r_rLine_8 x6 x7 x8 x9) (RMem.fuM (rwrA (rlW x2 x3 x4 x5) (r_rLine_8 x2 x3 x4 x5) (rnewR (64 : Nat) fun (_ _ : Nat) => (0 : Int)) (0 : Int) (0 : Int)).fst x10) x0 x1).snd)
 (.ok [(.b (Bool.false))])
 (.br 85 ((wrA (slW x6 x7 x8 x9) (r_sLine_8 x6 x7 x8 x9) (Mem.fuM (wrA (slW x2 x3 x4 x5) (r_sLine_8 x2 x3 x4 x5) (newM (64 : Nat)) (0 : Int) (0 : Int)).fst x10) x0 x1).fst.steps != (rwrA (rlW x6 x7 x8 x9) (r_rLine_8 x6 x7 x8 x9) (RMem.fuM (rwrA (rlW x2 x3 x4 x5) (r_rLine_8 x2 x3 x4 x5) (rnewR (64 : Nat) fun (_ _ : Nat) => (0 : Int)) (0 : Int) (0 : Int)).fst x10) x0 x1).fst.count)
 (.ok [(.b (Bool.false))])
 (.br 0 (on16 ok_sBest (wrA (slW x6 x7 x8 x9) (r_sLine_8 x6 x7 x8 x9) (Mem.fuM (wrA (slW x2 x3 x4 x5) (r_sLine_8 x2 x3 x4 x5) (newM (64 : Nat)) (0 : Int) (0 : Int)).fst x10) x0 x1).fst)
 (.br 0 (pdec (RMem.Ok (900000 : Int) (rwrA (rlW x6 x7 x8 x9) (r_rLine_8 x6 x7 x8 x9) (RMem.fuM (rwrA (rlW x2 x3 x4 x5) (r_rLine_8 x2 x3 x4 x5) (rnewR (64 : Nat) fun (_ _ : Nat) => (0 : Int)) (0 : Int) (0 : Int)).fst x10) x0 x1).fst))
 (.br 0 (ron16 ok_rBest (rwrA (rlW x6 x7 x8 x9) (r_rLine_8 x6 x7 x8 x9) (RMem.fuM (rwrA (rlW x2 x3 x4 x5) (r_rLine_8 x2 x3 x4 x5) (rnewR (64 : Nat) fun (_ _ : Nat) => (0 : Int)) (0 : Int) (0 : Int)).fst x10) x0 x1).fst)
 (.br 101 ((SuperWrites_c5 x0 x1 x2 x3 x4 x5 x6 x7 x8 x9 x10))
 (.ok [(.b (Bool.false))])
 (.br 106 (fdI r_sBest_4 (wrA (slW x6 x7 x8 x9) (r_sLine_8 x6 x7 x8 x9) (Mem.fuM (wrA (slW x2 x3 x4 x5) (r_sLine_8 x2 x3 x4 x5) (newM (64 : Nat)) (0 : Int) (0 : Int)).fst x10) x0 x1).fst != rfdI r_rBest_4 (rwrA (rlW x6 x7 x8 x9) (r_rLine_8 x6 x7 x8 x9) (RMem.fuM (rwrA (rlW x2 x3 x4 x5) (r_rLine_8 x2 x3 x4 x5) (rnewR (64 : Nat) fun (_ _ : Nat) => (0 : Int)) (0 : Int) (0 : Int)).fst x10) x0 x1).fst)
 (.ok [(.b (Bool.false))])
 (.br 110 (fdC (wrA (slW x6 x7 x8 x9) (r_sLine_8 x6 x7 x8 x9) (Mem.fuM (wrA (slW x2 x3 x4 x5) (r_sLine_8 x2 x3 x4 x5) (newM (64 : Nat)) (0 : Int) (0 : Int)).fst x10) x0 x1).fst != rfdC (rwrA (rlW x6 x7 x8 x9) (r_rLine_8 x6 x7 x8 x9) (RMem.fuM (rwrA (rlW x2 x3 x4 x5) (r_rLine_8 x2 x3 x4 x5) (rnewR (64 : Nat) fun (_ _ : Nat) => (0 : Int)) (0 : Int) (0 : Int)).fst x10) x0 x1).fst)
 (.ok [(.b (Bool.false))])
 (.br 0 (pdec (Mem.Ok (900000 : Int) (wrA (slW x6 x7 x8 x9) (r_sLine_8 x6 x7 x8 x9) (Mem.fuM (wrA (slW x2 x3 x4 x5) (r_sLine_8 x2 x3 x4 x5) (newM (64 : Nat)) (0 : Int) (0 : Int)).fst x10) x0 x1).fst))
 (.br 0 (pdec (KeepOk (fun (j : Nat) => g11 ((0 : Nat) + j) (0 : Nat)) n11))
 (.br 0 (pdec (RMem.Ok (900000 : Int) (rwrA (rlW x6 x7 x8 x9) (r_rLine_8 x6 x7 x8 x9) (RMem.fuM (rwrA (rlW x2 x3 x4 x5) (r_rLine_8 x2 x3 x4 x5) (rnewR (64 : Nat) fun (_ _ : Nat) => (0 : Int)) (0 : Int) (0 : Int)).fst x10) x0 x1).fst))
 (.br 0 (pdec (KeepOk (fun (j : Nat) => g11 ((0 : Nat) + j) (0 : Nat)) n11))
 (.br 0 (on16 ok_sBest (Mem.crM (wrA (slW x6 x7 x8 x9) (r_sLine_8 x6 x7 x8 x9) (Mem.fuM (wrA (slW x2 x3 x4 x5) (r_sLine_8 x2 x3 x4 x5) (newM (64 : Nat)) (0 : Int) (0 : Int)).fst x10) x0 x1).fst (fun (j : Nat) => g11 ((0 : Nat) + j) (0 : Nat)) n11))
 (.br 0 (pdec (RMem.Ok (900000 : Int) (RMem.crM (rwrA (rlW x6 x7 x8 x9) (r_rLine_8 x6 x7 x8 x9) (RMem.fuM (rwrA (rlW x2 x3 x4 x5) (r_rLine_8 x2 x3 x4 x5) (rnewR (64 : Nat) fun (_ _ : Nat) => (0 : Int)) (0 : Int) (0 : Int)).fst x10) x0 x1).fst (fun (j : Nat) => g11 ((0 : Nat) + j) (0 : Nat)) n11)))
 (.br 0 (ron16 ok_rBest (RMem.crM (rwrA (rlW x6 x7 x8 x9) (r_rLine_8 x6 x7 x8 x9) (RMem.fuM (rwrA (rlW x2 x3 x4 x5) (r_rLine_8 x2 x3 x4 x5) (rnewR (64 : Nat) fun (_ _ : Nat) => (0 : Int)) (0 : Int) (0 : Int)).fst x10) x0 x1).fst (fun (j : Nat) => g11 ((0 : Nat) + j) (0 : Nat)) n11))
 (.br 134 ((SuperWrites_c2 x0 x1 x2 x3 x4 x5 x6 x7 x8 x9 x10 n11 g11))
 (.br 139 (fdI r_sBest_4 (Mem.crM (wrA (slW x6 x7 x8 x9) (r_sLine_8 x6 x7 x8 x9) (Mem.fuM (wrA (slW x2 x3 x4 x5) (r_sLine_8 x2 x3 x4 x5) (newM (64 : Nat)) (0 : Int) (0 : Int)).fst x10) x0 x1).fst (fun (j : Nat) => g11 ((0 : Nat) + j) (0 : Nat)) n11) == rfdI r_rBest_4 (RMem.crM (rwrA (rlW x6 x7 x8 x9) (r_rLine_8 x6 x7 x8 x9) (RMem.fuM (rwrA (rlW x2 x3 x4 x5) (r_rLine_8 x2 x3 x4 x5) (rnewR (64 : Nat) fun (_ _ : Nat) => (0 : Int)) (0 : Int) (0 : Int)).fst x10) x0 x1).fst (fun (j : Nat) => g11 ((0 : Nat) + j) (0 : Nat)) n11))
 (.ok [(.b (fdC (Mem.crM (wrA (slW x6 x7 x8 x9) (r_sLine_8 x6 x7 x8 x9) (Mem.fuM (wrA (slW x2 x3 x4 x5) (r_sLine_8 x2 x3 x4 x5) (newM (64 : Nat)) (0 : Int) (0 : Int)).fst x10) x0 x1).fst (fun (j : Nat) => g11 ((0 : Nat) + j) (0 : Nat)) n11) == rfdC (RMem.crM (rwrA (rlW x6 x7 x8 x9) (r_rLine_8 x6 x7 x8 x9) (RMem.fuM (rwrA (rlW x2 x3 x4 x5) (r_rLine_8 x2 x3 x4 x5) (rnewR (64 : Nat) fun (_ _ : Nat) => (0 : Int)) (0 : Int) (0 : Int)).fst x10) x0 x1).fst (fun (j : Nat) => g11 ((0 : Nat) + j) (0 : Nat)) n11)))])
 (.ok [(.b (Bool.false))]))
 (.ok [(.b (Bool.false))]))
 (.no))
 (.no))
 (.no))
 (.no))
 (.no))
 (.no))
 (.no)))))
 (.no))
 (.no))
 (.no)))))
 (.no))
 (.no))
 (.no))
 (.no))
 (.no))
 (.no))
 (.no))
 (.no))))
 (.no)
noncomputable def y_SuperWrites : Nat → Option Nat := (syOf3 [72, 77, 85, 101, 106, 110, 134, 139] [] [])
noncomputable def TL_SuperWrites (l : List At) : Tr (List At) := T_SuperWrites (aI l 0) (aI l 1) (aI l 2) (aI l 3) (aI l 4) (aI l 5) (aI l 6) (aI l 7) (aI l 8) (aI l 9) (aI l 10) (aRn l 11) (aRg l 11)
theorem e_SuperWrites (l : List At) : (call Try.prog Γ_X3 y_SuperWrites noLoops 100 Try.f9 (mkV ish_SuperWrites l) (mkH ish_SuperWrites l)).bind (leafO ish_SuperWrites.hp.length ⟨[.v false [.k .b]], List.replicate ish_SuperWrites.hp.length .no⟩) = TL_SuperWrites l := by kernel_rfl

end Go.Proofs.Ytgmhggipaopoiaa.G
end

/-
  What functions of the seat compute, printed by a program from the explorer.
-/
section
namespace Go.Proofs.Ytgmhggipaopoiaa.G
open Go Go.AM Go.Proofs
/-! ### SuperBest -/

end Go.Proofs.Ytgmhggipaopoiaa.G
end

/-
  Sums and seals, in plain numbers.
-/
section
namespace Go.Proofs.Ytgmhggipaopoiaa.G
open Go Go.AM Go.Proofs

theorem crcMore_eq (x : Int) {n : Nat} (g : Nat → Nat → Int) (h : n < 9223372036854775807) : ok_crcMore x n g = true ∧ r_crcMore_0 x n g = sumBy crcStep x n (fun j => g j 0) := by
  have hc : (decide ((0 : Int) ≤ 0) && decide ((0 : Int) ≤ (n : Int)) && decide ((n : Int) = (n : Int)) && decide ((n : Int) < 9223372036854775807)) = true := by
    simp only [Bool.and_eq_true, decide_eq_true_eq]
    exact ⟨⟨⟨by omega, by omega⟩, trivial⟩, by omega⟩
  unfold ok_crcMore r_crcMore_0
  rw [hc]
  refine ⟨rfl, ?_⟩
  rw [cond_true, show ((n : Int) - 0).toNat = n by omega]
  rfl

theorem crcSum_eq {n : Nat} (g : Nat → Nat → Int) (h : n < 9223372036854775807) : ok_crcSum n g = true ∧ r_crcSum_0 n g = sumBy crcStep 0 n (fun j => g j 0) := by
  obtain ⟨h1, h2⟩ := crcMore_eq 0 (fun j cc => g (0 + j) cc) h
  unfold ok_crcSum r_crcSum_0
  rw [h1, h2]
  simp

theorem refReg_eq (x : Int) {n : Nat} (g : Nat → Nat → Int) (h : n < 9223372036854775807) : ok_refReg x n g = true ∧ r_refReg_0 x n g = crcFold refStep (fun j => g j 0) n 0 x := by
  have hc : (decide ((0 : Int) ≤ 0) && decide ((0 : Int) ≤ (n : Int)) && decide ((n : Int) < 9223372036854775807)) = true := by
    simp only [Bool.and_eq_true, decide_eq_true_eq]; omega
  unfold ok_refReg r_refReg_0
  rw [hc]
  refine ⟨rfl, ?_⟩
  rw [cond_true, show ((n : Int) - 0).toNat = n by omega]

theorem refSum_eq {n : Nat} (g : Nat → Nat → Int) (h : n < 9223372036854775807) : ok_refSum n g = true ∧ r_refSum_0 n g = sumBy refStep 0 n (fun j => g j 0) := by
  obtain ⟨h1, h2⟩ := refReg_eq 4294967295 (fun j cc => g (0 + j) cc) h
  unfold ok_refSum r_refSum_0
  rw [h1, h2]
  refine ⟨rfl, ?_⟩
  have e : bits BinOp.xor IntKind.u32 4294967295 0 = 4294967295 := by decide +kernel
  unfold sumBy
  rw [e]
  simp

/-! ### words as bytes -/

theorem wrap_byte {x : Int} {k : Int} (h0 : 0 ≤ x) (hk : 0 < k) : IntKind.wrap IntKind.u8 (Int.fdiv x k) = ((x.toNat / k.toNat % 256 : Nat) : Int) := by
  rw [wrap_u8_mod, Int.fdiv_eq_ediv_of_nonneg _ (by omega)]
  obtain ⟨n, rfl⟩ := Int.eq_ofNat_of_zero_le h0
  obtain ⟨m, rfl⟩ := Int.eq_ofNat_of_zero_le (show 0 ≤ k by omega)
  simp only [Int.toNat_natCast]
  rfl

def byteOf (w : Nat → Nat) (j : Nat) : Nat := w (j / 8) / 2 ^ (8 * (j % 8)) % 256

def words7 (x0 x1 x2 x3 x4 x5 x6 : Int) : Nat → Nat := fun i => ([x0, x1, x2, x3, x4, x5, x6].getD i 0).toNat

def sealRows (x0 x1 x2 x3 x4 x5 x6 : Int) : List (List Int) :=
  [[r_wordBytes_0 x0], [r_wordBytes_1 x0], [r_wordBytes_2 x0], [r_wordBytes_3 x0], [r_wordBytes_4 x0], [r_wordBytes_5 x0], [r_wordBytes_6 x0], [r_wordBytes_7 x0],
   [r_wordBytes_8 x1], [r_wordBytes_9 x1], [r_wordBytes_10 x1], [r_wordBytes_11 x1], [r_wordBytes_12 x1], [r_wordBytes_13 x1], [r_wordBytes_14 x1], [r_wordBytes_15 x1],
   [r_wordBytes_16 x2], [r_wordBytes_17 x2], [r_wordBytes_18 x2], [r_wordBytes_19 x2], [r_wordBytes_20 x2], [r_wordBytes_21 x2], [r_wordBytes_22 x2], [r_wordBytes_23 x2],
   [r_wordBytes_24 x3], [r_wordBytes_25 x3], [r_wordBytes_26 x3], [r_wordBytes_27 x3], [r_wordBytes_28 x3], [r_wordBytes_29 x3], [r_wordBytes_30 x3], [r_wordBytes_31 x3],
   [r_wordBytes_32 x4], [r_wordBytes_33 x4], [r_wordBytes_34 x4], [r_wordBytes_35 x4], [r_wordBytes_36 x4], [r_wordBytes_37 x4], [r_wordBytes_38 x4], [r_wordBytes_39 x4],
   [r_wordBytes_40 x5], [r_wordBytes_41 x5], [r_wordBytes_42 x5], [r_wordBytes_43 x5], [r_wordBytes_44 x5], [r_wordBytes_45 x5], [r_wordBytes_46 x5], [r_wordBytes_47 x5],
   [r_wordBytes_48 x6], [r_wordBytes_49 x6], [r_wordBytes_50 x6], [r_wordBytes_51 x6], [r_wordBytes_52 x6], [r_wordBytes_53 x6], [r_wordBytes_54 x6], [r_wordBytes_55 x6]]

theorem byte_at {x : Int} (h : 0 ≤ x) {w : Nat → Nat} {i : Nat} (hw : w i = x.toNat) (k : Nat) (hk : k < 8) (p : Int) (hp : p = ((2 ^ (8 * k) : Nat) : Int)) : IntKind.wrap IntKind.u8 (Int.fdiv x p) = ((byteOf w (8 * i + k) : Nat) : Int) := by
  subst hp
  rw [wrap_byte h (by have := Nat.two_pow_pos (8 * k); omega)]
  unfold byteOf
  rw [show (8 * i + k) / 8 = i by omega, show (8 * i + k) % 8 = k by omega, hw]
  rfl

theorem sealRows_byte {x0 x1 x2 x3 x4 x5 x6 : Int} (h0 : 0 ≤ x0) (h1 : 0 ≤ x1) (h2 : 0 ≤ x2) (h3 : 0 ≤ x3) (h4 : 0 ≤ x4) (h5 : 0 ≤ x5) (h6 : 0 ≤ x6) : ∀ j, j < 56 →
    rowsF (sealRows x0 x1 x2 x3 x4 x5 x6) j 0 = ((byteOf (words7 x0 x1 x2 x3 x4 x5 x6) j : Nat) : Int) := by
  intro j hj
  have d : j / 8 = 0 ∨ j / 8 = 1 ∨ j / 8 = 2 ∨ j / 8 = 3 ∨ j / 8 = 4 ∨ j / 8 = 5 ∨ j / 8 = 6 := by omega
  have m : j % 8 = 0 ∨ j % 8 = 1 ∨ j % 8 = 2 ∨ j % 8 = 3 ∨ j % 8 = 4 ∨ j % 8 = 5 ∨ j % 8 = 6 ∨ j % 8 = 7 := by omega
  rcases d with d | d | d | d | d | d | d
  all_goals
    rcases m with m | m | m | m | m | m | m | m
    all_goals
      have e : j = 8 * (j / 8) + j % 8 := by omega
      rw [d, m] at e
      subst e
      first
        | exact byte_at h0 (w := words7 x0 x1 x2 x3 x4 x5 x6) (i := 0) rfl _ (by omega) _ rfl
        | exact byte_at h1 (w := words7 x0 x1 x2 x3 x4 x5 x6) (i := 1) rfl _ (by omega) _ rfl
        | exact byte_at h2 (w := words7 x0 x1 x2 x3 x4 x5 x6) (i := 2) rfl _ (by omega) _ rfl
        | exact byte_at h3 (w := words7 x0 x1 x2 x3 x4 x5 x6) (i := 3) rfl _ (by omega) _ rfl
        | exact byte_at h4 (w := words7 x0 x1 x2 x3 x4 x5 x6) (i := 4) rfl _ (by omega) _ rfl
        | exact byte_at h5 (w := words7 x0 x1 x2 x3 x4 x5 x6) (i := 5) rfl _ (by omega) _ rfl
        | exact byte_at h6 (w := words7 x0 x1 x2 x3 x4 x5 x6) (i := 6) rfl _ (by omega) _ rfl

def sealN (w : Nat → Nat) : Nat := 4294967296 + crcN 0 56 (byteOf w)

theorem byteOf_lt (w : Nat → Nat) (j : Nat) : byteOf w j < 256 := Nat.mod_lt _ (by decide)

theorem or_mark {n : Nat} (h : n < 4294967296) : 4294967296 ||| n = 4294967296 + n := by
  have := Nat.two_pow_add_eq_or_of_lt (i := 32) (b := n) (by simpa using h) 1
  simpa using this.symm

theorem sum_seal {f : Int → Int} (hf : ∀ n : Nat, n < 4294967296 → f (n : Int) = stpN n) {x0 x1 x2 x3 x4 x5 x6 : Int} (h0 : 0 ≤ x0) (h1 : 0 ≤ x1) (h2 : 0 ≤ x2) (h3 : 0 ≤ x3) (h4 : 0 ≤ x4) (h5 : 0 ≤ x5) (h6 : 0 ≤ x6) :
    sumBy f 0 56 (fun j => rowsF (sealRows x0 x1 x2 x3 x4 x5 x6) j 0) = (crcN 0 56 (byteOf (words7 x0 x1 x2 x3 x4 x5 x6)) : Nat) := by
  have hb := sealRows_byte h0 h1 h2 h3 h4 h5 h6
  have hB : IsBytes 56 (fun j => rowsF (sealRows x0 x1 x2 x3 x4 x5 x6) j 0) := fun j hj => by
    show 0 ≤ rowsF (sealRows x0 x1 x2 x3 x4 x5 x6) j 0 ∧ rowsF (sealRows x0 x1 x2 x3 x4 x5 x6) j 0 < 256
    rw [hb j hj]
    have := byteOf_lt (words7 x0 x1 x2 x3 x4 x5 x6) j
    omega
  have := sumBy_nat hf hB (x := 0) (by decide)
  rw [show ((0 : Nat) : Int) = 0 from rfl] at this
  rw [this]
  congr 1
  exact crcN_congr fun j hj => by
    show (rowsF (sealRows x0 x1 x2 x3 x4 x5 x6) j 0).toNat = _
    rw [hb j hj]; rfl

theorem sum_ok (x0 x1 x2 x3 x4 x5 x6 : Int) : ok_crcSum 56 (rowsF (sealRows x0 x1 x2 x3 x4 x5 x6)) = true := (crcSum_eq (rowsF (sealRows x0 x1 x2 x3 x4 x5 x6)) (by decide)).1

theorem ok_seal (x0 x1 x2 x3 x4 x5 x6 x7 : Int) : ok_crcSeal x0 x1 x2 x3 x4 x5 x6 x7 = true := by
  show (bif ok_crcSum 56 (rowsF (sealRows x0 x1 x2 x3 x4 x5 x6)) then true else false) = true
  rw [sum_ok]; rfl
theorem seal_0 (x0 x1 x2 x3 x4 x5 x6 : Int) : r_crcSeal_0 x0 x1 x2 x3 x4 x5 x6 = x0 := by
  show (bif ok_crcSum 56 (rowsF (sealRows x0 x1 x2 x3 x4 x5 x6)) then x0 else 0) = x0
  rw [sum_ok]; rfl
theorem seal_1 (x0 x1 x2 x3 x4 x5 x6 : Int) : r_crcSeal_1 x0 x1 x2 x3 x4 x5 x6 = x1 := by
  show (bif ok_crcSum 56 (rowsF (sealRows x0 x1 x2 x3 x4 x5 x6)) then x1 else 0) = x1
  rw [sum_ok]; rfl
theorem seal_2 (x0 x1 x2 x3 x4 x5 x6 : Int) : r_crcSeal_2 x0 x1 x2 x3 x4 x5 x6 = x2 := by
  show (bif ok_crcSum 56 (rowsF (sealRows x0 x1 x2 x3 x4 x5 x6)) then x2 else 0) = x2
  rw [sum_ok]; rfl
theorem seal_3 (x0 x1 x2 x3 x4 x5 x6 : Int) : r_crcSeal_3 x0 x1 x2 x3 x4 x5 x6 = x3 := by
  show (bif ok_crcSum 56 (rowsF (sealRows x0 x1 x2 x3 x4 x5 x6)) then x3 else 0) = x3
  rw [sum_ok]; rfl
theorem seal_4 (x0 x1 x2 x3 x4 x5 x6 : Int) : r_crcSeal_4 x0 x1 x2 x3 x4 x5 x6 = x4 := by
  show (bif ok_crcSum 56 (rowsF (sealRows x0 x1 x2 x3 x4 x5 x6)) then x4 else 0) = x4
  rw [sum_ok]; rfl
theorem seal_5 (x0 x1 x2 x3 x4 x5 x6 : Int) : r_crcSeal_5 x0 x1 x2 x3 x4 x5 x6 = x5 := by
  show (bif ok_crcSum 56 (rowsF (sealRows x0 x1 x2 x3 x4 x5 x6)) then x5 else 0) = x5
  rw [sum_ok]; rfl
theorem seal_6 (x0 x1 x2 x3 x4 x5 x6 : Int) : r_crcSeal_6 x0 x1 x2 x3 x4 x5 x6 = x6 := by
  show (bif ok_crcSum 56 (rowsF (sealRows x0 x1 x2 x3 x4 x5 x6)) then x6 else 0) = x6
  rw [sum_ok]; rfl
theorem seal_7 {x0 x1 x2 x3 x4 x5 x6 : Int} (h0 : 0 ≤ x0) (h1 : 0 ≤ x1) (h2 : 0 ≤ x2) (h3 : 0 ≤ x3) (h4 : 0 ≤ x4) (h5 : 0 ≤ x5) (h6 : 0 ≤ x6) : r_crcSeal_7 x0 x1 x2 x3 x4 x5 x6 = (sealN (words7 x0 x1 x2 x3 x4 x5 x6) : Nat) := by
  show (bif ok_crcSum 56 (rowsF (sealRows x0 x1 x2 x3 x4 x5 x6)) then bits BinOp.or IntKind.u64 4294967296 (IntKind.wrap IntKind.u64 (r_crcSum_0 56 (rowsF (sealRows x0 x1 x2 x3 x4 x5 x6)))) else 0) = _
  rw [sum_ok, cond_true, (crcSum_eq (rowsF (sealRows x0 x1 x2 x3 x4 x5 x6)) (by decide)).2, sum_seal (fun _ h => crcStep_nat h) h0 h1 h2 h3 h4 h5 h6]
  have := crcN_lt (x := 0) (m := 56) (b := byteOf (words7 x0 x1 x2 x3 x4 x5 x6)) (fun j _ => byteOf_lt _ j) (by decide)
  rw [wrap_u64 (by omega) (by omega)]
  have e := u64_or_nat 4294967296 (crcN 0 56 (byteOf (words7 x0 x1 x2 x3 x4 x5 x6))) (by decide) (by omega)
  rw [or_mark this] at e
  exact e

/-! ### as the document says -/

theorem rsum_ok (x0 x1 x2 x3 x4 x5 x6 : Int) : ok_refSum 56 (rowsF (sealRows x0 x1 x2 x3 x4 x5 x6)) = true := (refSum_eq (rowsF (sealRows x0 x1 x2 x3 x4 x5 x6)) (by decide)).1

theorem ok_rseal (x0 x1 x2 x3 x4 x5 x6 x7 : Int) : ok_refSeal x0 x1 x2 x3 x4 x5 x6 x7 = true := by
  show (bif ok_refSum 56 (rowsF (sealRows x0 x1 x2 x3 x4 x5 x6)) then true else false) = true
  rw [rsum_ok]; rfl
theorem rseal_0 (x0 x1 x2 x3 x4 x5 x6 : Int) : r_refSeal_0 x0 x1 x2 x3 x4 x5 x6 = x0 := by
  show (bif ok_refSum 56 (rowsF (sealRows x0 x1 x2 x3 x4 x5 x6)) then x0 else 0) = x0
  rw [rsum_ok]; rfl
theorem rseal_1 (x0 x1 x2 x3 x4 x5 x6 : Int) : r_refSeal_1 x0 x1 x2 x3 x4 x5 x6 = x1 := by
  show (bif ok_refSum 56 (rowsF (sealRows x0 x1 x2 x3 x4 x5 x6)) then x1 else 0) = x1
  rw [rsum_ok]; rfl
theorem rseal_2 (x0 x1 x2 x3 x4 x5 x6 : Int) : r_refSeal_2 x0 x1 x2 x3 x4 x5 x6 = x2 := by
  show (bif ok_refSum 56 (rowsF (sealRows x0 x1 x2 x3 x4 x5 x6)) then x2 else 0) = x2
  rw [rsum_ok]; rfl
theorem rseal_3 (x0 x1 x2 x3 x4 x5 x6 : Int) : r_refSeal_3 x0 x1 x2 x3 x4 x5 x6 = x3 := by
  show (bif ok_refSum 56 (rowsF (sealRows x0 x1 x2 x3 x4 x5 x6)) then x3 else 0) = x3
  rw [rsum_ok]; rfl
theorem rseal_4 (x0 x1 x2 x3 x4 x5 x6 : Int) : r_refSeal_4 x0 x1 x2 x3 x4 x5 x6 = x4 := by
  show (bif ok_refSum 56 (rowsF (sealRows x0 x1 x2 x3 x4 x5 x6)) then x4 else 0) = x4
  rw [rsum_ok]; rfl
theorem rseal_5 (x0 x1 x2 x3 x4 x5 x6 : Int) : r_refSeal_5 x0 x1 x2 x3 x4 x5 x6 = x5 := by
  show (bif ok_refSum 56 (rowsF (sealRows x0 x1 x2 x3 x4 x5 x6)) then x5 else 0) = x5
  rw [rsum_ok]; rfl
theorem rseal_6 (x0 x1 x2 x3 x4 x5 x6 : Int) : r_refSeal_6 x0 x1 x2 x3 x4 x5 x6 = x6 := by
  show (bif ok_refSum 56 (rowsF (sealRows x0 x1 x2 x3 x4 x5 x6)) then x6 else 0) = x6
  rw [rsum_ok]; rfl
theorem rseal_7 {x0 x1 x2 x3 x4 x5 x6 : Int} (h0 : 0 ≤ x0) (h1 : 0 ≤ x1) (h2 : 0 ≤ x2) (h3 : 0 ≤ x3) (h4 : 0 ≤ x4) (h5 : 0 ≤ x5) (h6 : 0 ≤ x6) : r_refSeal_7 x0 x1 x2 x3 x4 x5 x6 = (sealN (words7 x0 x1 x2 x3 x4 x5 x6) : Nat) := by
  show (bif ok_refSum 56 (rowsF (sealRows x0 x1 x2 x3 x4 x5 x6)) then bits BinOp.or IntKind.u64 (IntKind.wrap IntKind.u64 (r_refSum_0 56 (rowsF (sealRows x0 x1 x2 x3 x4 x5 x6)))) 4294967296 else 0) = _
  rw [rsum_ok, cond_true, (refSum_eq (rowsF (sealRows x0 x1 x2 x3 x4 x5 x6)) (by decide)).2, sum_seal (fun _ h => refStep_nat h) h0 h1 h2 h3 h4 h5 h6]
  have := crcN_lt (x := 0) (m := 56) (b := byteOf (words7 x0 x1 x2 x3 x4 x5 x6)) (fun j _ => byteOf_lt _ j) (by decide)
  rw [wrap_u64 (by omega) (by omega)]
  have e := u64_or_nat (crcN 0 56 (byteOf (words7 x0 x1 x2 x3 x4 x5 x6))) 4294967296 (by omega) (by decide)
  rw [Nat.or_comm, or_mark this] at e
  exact e
end Go.Proofs.Ytgmhggipaopoiaa.G
end

/-
  What the laws of super blocks lean on.
-/
section
namespace Go.Proofs.Ytgmhggipaopoiaa.G
open Go Go.AM Go.Proofs

theorem within_eq (x a b : Int) : r_within__0 x a b = decide (a ≤ x ∧ x ≤ b) := by
  unfold r_within__0
  rw [Bool.eq_iff_iff]
  by_cases h : x ≥ a
  · simp [h]
  · simp [h]

def sb (x0 x1 x2 x3 : Int) : Bool := decide (1 ≤ x0 ∧ x0 ≤ 1099511627776 ∧ 0 ≤ x1 ∧ x1 ≤ 1023 ∧ 0 ≤ x2 ∧ x2 ≤ 1099511627776 ∧ 1 ≤ x3 ∧ x3 ≤ 8)

theorem chain4 {α : Type} (a b c d : Bool) (z v y : α) : (bif !a then z else bif !b then z else bif !c then z else bif !d then z else bif true then v else y) = bif (a && (b && (c && d))) then v else z := by
  cases a <;> cases b <;> cases c <;> cases d <;> rfl

theorem chain8 {α : Type} (a b c d e f g h : Bool) (z v y : α) : (bif a then z else bif b then z else bif c then z else bif d then z else bif e then z else bif f then z else bif g then z else bif h then z else bif true then v else y)
    = bif (!a && (!b && (!c && (!d && (!e && (!f && (!g && !h))))))) then v else z := by
  cases a <;> cases b <;> cases c <;> cases d <;> cases e <;> cases f <;> cases g <;> cases h <;> rfl

theorem sb_s (x0 x1 x2 x3 : Int) : (r_within__0 x0 1 1099511627776 && (r_within__0 x1 0 1023 && (r_within__0 x2 0 1099511627776 && r_within__0 x3 1 8))) = sb x0 x1 x2 x3 := by
  simp only [within_eq, sb]
  rw [Bool.eq_iff_iff]
  simp only [Bool.and_eq_true, decide_eq_true_eq]
  omega

theorem sb_r (x0 x1 x2 x3 : Int) : (!decide (x0 < 1) && (!decide (x0 > 1099511627776) && (!decide (x1 < 0) && (!decide (x1 ≥ 1024) && (!decide (x2 < 0) && (!decide (x2 > 1099511627776) && (!decide (x3 < 1) && !decide (x3 > 8)))))))) = sb x0 x1 x2 x3 := by
  simp only [sb]
  rw [Bool.eq_iff_iff]
  simp only [Bool.and_eq_true, Bool.not_eq_true', decide_eq_true_eq, decide_eq_false_iff_not]
  omega

theorem wu (x : Int) : 0 ≤ IntKind.wrap IntKind.u64 x := by
  rw [wrap_u64_mod]; omega

def sealS (x0 x1 x2 x3 : Int) : Nat := sealN (words7 1526644958 (IntKind.wrap IntKind.u64 x0) (IntKind.wrap IntKind.u64 x1) (IntKind.wrap IntKind.u64 x2) (IntKind.wrap IntKind.u64 x3) 0 0)

theorem s0 (x0 x1 x2 x3 : Int) : r_sLine_0 x0 x1 x2 x3 = bif sb x0 x1 x2 x3 then 1526644958 else 0 := by
  unfold r_sLine_0
  rw [ok_seal, chain4, sb_s, seal_0]
theorem t0 (x0 x1 x2 x3 : Int) : r_rLine_0 x0 x1 x2 x3 = r_sLine_0 x0 x1 x2 x3 := by
  rw [s0]
  unfold r_rLine_0
  rw [ok_rseal, chain8, sb_r, rseal_0]

theorem s1 (x0 x1 x2 x3 : Int) : r_sLine_1 x0 x1 x2 x3 = bif sb x0 x1 x2 x3 then IntKind.wrap IntKind.u64 x0 else 0 := by
  unfold r_sLine_1
  rw [ok_seal, chain4, sb_s, seal_1]
theorem t1 (x0 x1 x2 x3 : Int) : r_rLine_1 x0 x1 x2 x3 = r_sLine_1 x0 x1 x2 x3 := by
  rw [s1]
  unfold r_rLine_1
  rw [ok_rseal, chain8, sb_r, rseal_1]

theorem s2 (x0 x1 x2 x3 : Int) : r_sLine_2 x0 x1 x2 x3 = bif sb x0 x1 x2 x3 then IntKind.wrap IntKind.u64 x1 else 0 := by
  unfold r_sLine_2
  rw [ok_seal, chain4, sb_s, seal_2]
theorem t2 (x0 x1 x2 x3 : Int) : r_rLine_2 x0 x1 x2 x3 = r_sLine_2 x0 x1 x2 x3 := by
  rw [s2]
  unfold r_rLine_2
  rw [ok_rseal, chain8, sb_r, rseal_2]

theorem s3 (x0 x1 x2 x3 : Int) : r_sLine_3 x0 x1 x2 x3 = bif sb x0 x1 x2 x3 then IntKind.wrap IntKind.u64 x2 else 0 := by
  unfold r_sLine_3
  rw [ok_seal, chain4, sb_s, seal_3]
theorem t3 (x0 x1 x2 x3 : Int) : r_rLine_3 x0 x1 x2 x3 = r_sLine_3 x0 x1 x2 x3 := by
  rw [s3]
  unfold r_rLine_3
  rw [ok_rseal, chain8, sb_r, rseal_3]

theorem s4 (x0 x1 x2 x3 : Int) : r_sLine_4 x0 x1 x2 x3 = bif sb x0 x1 x2 x3 then IntKind.wrap IntKind.u64 x3 else 0 := by
  unfold r_sLine_4
  rw [ok_seal, chain4, sb_s, seal_4]
theorem t4 (x0 x1 x2 x3 : Int) : r_rLine_4 x0 x1 x2 x3 = r_sLine_4 x0 x1 x2 x3 := by
  rw [s4]
  unfold r_rLine_4
  rw [ok_rseal, chain8, sb_r, rseal_4]

theorem s5 (x0 x1 x2 x3 : Int) : r_sLine_5 x0 x1 x2 x3 = bif sb x0 x1 x2 x3 then 0 else 0 := by
  unfold r_sLine_5
  rw [ok_seal, chain4, sb_s, seal_5]
theorem t5 (x0 x1 x2 x3 : Int) : r_rLine_5 x0 x1 x2 x3 = r_sLine_5 x0 x1 x2 x3 := by
  rw [s5]
  unfold r_rLine_5
  rw [ok_rseal, chain8, sb_r, rseal_5]

theorem s6 (x0 x1 x2 x3 : Int) : r_sLine_6 x0 x1 x2 x3 = bif sb x0 x1 x2 x3 then 0 else 0 := by
  unfold r_sLine_6
  rw [ok_seal, chain4, sb_s, seal_6]
theorem t6 (x0 x1 x2 x3 : Int) : r_rLine_6 x0 x1 x2 x3 = r_sLine_6 x0 x1 x2 x3 := by
  rw [s6]
  unfold r_rLine_6
  rw [ok_rseal, chain8, sb_r, rseal_6]

theorem s7 (x0 x1 x2 x3 : Int) : r_sLine_7 x0 x1 x2 x3 = bif sb x0 x1 x2 x3 then (sealS x0 x1 x2 x3 : Int) else 0 := by
  unfold r_sLine_7
  rw [ok_seal, chain4, sb_s, (seal_7 (by decide) (wu x0) (wu x1) (wu x2) (wu x3) (by decide) (by decide))]
  rfl
theorem t7 (x0 x1 x2 x3 : Int) : r_rLine_7 x0 x1 x2 x3 = r_sLine_7 x0 x1 x2 x3 := by
  rw [s7]
  unfold r_rLine_7
  rw [ok_rseal, chain8, sb_r, (rseal_7 (by decide) (wu x0) (wu x1) (wu x2) (wu x3) (by decide) (by decide))]
  rfl

theorem s8 (x0 x1 x2 x3 : Int) : r_sLine_8 x0 x1 x2 x3 = bif sb x0 x1 x2 x3 then 0 else 1 := by
  unfold r_sLine_8
  rw [ok_seal, chain4, sb_s]
theorem t8 (x0 x1 x2 x3 : Int) : r_rLine_8 x0 x1 x2 x3 = r_sLine_8 x0 x1 x2 x3 := by
  rw [s8]
  unfold r_rLine_8
  rw [ok_rseal, chain8, sb_r]
theorem sk (x0 x1 x2 x3 : Int) : ok_sLine x0 x1 x2 x3 = true := by
  unfold ok_sLine
  rw [ok_seal, chain4]
  cases (r_within__0 x0 1 1099511627776 && (r_within__0 x1 0 1023 && (r_within__0 x2 0 1099511627776 && r_within__0 x3 1 8))) <;> rfl
theorem tk (x0 x1 x2 x3 : Int) : ok_rLine x0 x1 x2 x3 = true := by
  unfold ok_rLine
  rw [ok_rseal, chain8, sb_r]
  cases sb x0 x1 x2 x3 <;> rfl

section
variable (x0 x1 x2 x3 x4 x5 x6 x7 : Int)
theorem rk : ok_sRead x0 x1 x2 x3 x4 x5 x6 x7 = true := by
  unfold ok_sRead
  simp only [sk, cond_true]
  generalize (r_sLine_8 _ _ _ _ != 0) = a
  cases a
  · generalize (!(_ && _)) = b
    cases b <;> rfl
  · rfl
theorem uk : ok_rRead x0 x1 x2 x3 x4 x5 x6 x7 = true := by
  have h := rk x0 x1 x2 x3 x4 x5 x6 x7
  unfold ok_sRead at h
  unfold ok_rRead
  simp only [t0, t1, t2, t3, t4, t5, t6, t7, t8, tk, sk] at h ⊢
  exact h

theorem u0 : r_rRead_0 x0 x1 x2 x3 x4 x5 x6 x7 = r_sRead_0 x0 x1 x2 x3 x4 x5 x6 x7 := by
  unfold r_rRead_0 r_sRead_0
  simp only [t0, t1, t2, t3, t4, t5, t6, t7, t8, tk, sk]

theorem u1 : r_rRead_1 x0 x1 x2 x3 x4 x5 x6 x7 = r_sRead_1 x0 x1 x2 x3 x4 x5 x6 x7 := by
  unfold r_rRead_1 r_sRead_1
  simp only [t0, t1, t2, t3, t4, t5, t6, t7, t8, tk, sk]

theorem u2 : r_rRead_2 x0 x1 x2 x3 x4 x5 x6 x7 = r_sRead_2 x0 x1 x2 x3 x4 x5 x6 x7 := by
  unfold r_rRead_2 r_sRead_2
  simp only [t0, t1, t2, t3, t4, t5, t6, t7, t8, tk, sk]

theorem u3 : r_rRead_3 x0 x1 x2 x3 x4 x5 x6 x7 = r_sRead_3 x0 x1 x2 x3 x4 x5 x6 x7 := by
  unfold r_rRead_3 r_sRead_3
  simp only [t0, t1, t2, t3, t4, t5, t6, t7, t8, tk, sk]

theorem u4 : r_rRead_4 x0 x1 x2 x3 x4 x5 x6 x7 = r_sRead_4 x0 x1 x2 x3 x4 x5 x6 x7 := by
  unfold r_rRead_4 r_sRead_4
  simp only [t0, t1, t2, t3, t4, t5, t6, t7, t8, tk, sk]

end
end Go.Proofs.Ytgmhggipaopoiaa.G
end

/-
  The plain law of SuperBest.
-/
section
namespace Go.Proofs.Ytgmhggipaopoiaa.G
open Go Go.AM Go.Proofs

theorem read_no {x0 x1 x2 x3 x4 x5 x6 x7 : Int} (h : r_sRead_4 x0 x1 x2 x3 x4 x5 x6 x7 = false) : r_sRead_0 x0 x1 x2 x3 x4 x5 x6 x7 = 0 ∧ r_sRead_1 x0 x1 x2 x3 x4 x5 x6 x7 = 0 ∧ r_sRead_2 x0 x1 x2 x3 x4 x5 x6 x7 = 0 ∧ r_sRead_3 x0 x1 x2 x3 x4 x5 x6 x7 = 0 := by
  revert h
  simp only [r_sRead_0, r_sRead_1, r_sRead_2, r_sRead_3, r_sRead_4, sk, cond_true]
  generalize (r_sLine_8 _ _ _ _ != 0) = a
  generalize (!(_ && _)) = b
  cases a <;> cases b <;> simp

end Go.Proofs.Ytgmhggipaopoiaa.G
end

/-
  The plain law of SuperWrites.
-/
section
namespace Go.Proofs.Ytgmhggipaopoiaa.G
open Go Go.AM Go.Proofs

def Two (K : Int) (m : Mem) (y : RMem) : Prop := m.Ok K ∧ y.Ok K ∧ m.Coh ∧ Side m y
theorem Two.mono {K K' : Int} {m : Mem} {y : RMem} (h : Two K m y) (hk : K ≤ K') : Two K' m y := ⟨h.1.mono hk, h.2.1.mono hk, h.2.2.1, h.2.2.2⟩

theorem two_st {K : Int} {m : Mem} {y : RMem} (h : Two K m y) (hK : K < 900000) {i w v : Int} : Two (K + 1) (m.stM i w v) (y.stM i w v) := ⟨stM_ok h.1 (by omega), rstM_ok h.2.1 (by omega), stM_coh h.2.2.1 h.1, side_stM h.2.2.2 h.2.1 _ _ _⟩
theorem two_stL {w : Nat → Int} {s : Int} : ∀ (k i : Nat) (m : Mem) (y : RMem) (K : Int), Two K m y → K + k ≤ 900000 → (rstL w s k i y).2 = (stL w s k i m).2 ∧ Two (K + k) (stL w s k i m).1 (rstL w s k i y).1
  | 0, _, _, _, _, h, _ => ⟨rfl, h.mono (by omega)⟩
  | k + 1, i, m, y, K, h, hK => by
    rw [stL, rstL, side_stC h.2.2.2]
    have t := two_st h (by omega) (i := s) (w := (i : Int)) (v := w i)
    split
    · obtain ⟨a, b⟩ := two_stL (w := w) (s := s) k (i + 1) _ _ (K + 1) t (by omega)
      exact ⟨a, b.mono (by omega)⟩
    · exact ⟨rfl, t.mono (by omega)⟩

theorem two_wrM {w : Nat → Int} {K : Int} {m : Mem} {y : RMem} (h : Two K m y) (hK : K ≤ 800000) (core slot : Int) : (rwrM w y core slot).2 = (wrM w m core slot).2 ∧ Two (K + 20) (wrM w m core slot).1 (rwrM w y core slot).1 := by
  have t0 := two_st h (by omega) (i := slot) (w := 7) (v := 0)
  obtain ⟨e1, t1⟩ := two_stL (w := w) (s := slot) 8 0 _ _ _ t0 (by omega)
  unfold wrM rwrM
  rw [side_stC h.2.2.2, e1]
  generalize stL w slot 8 0 (m.stM slot 7 0) = A at *
  generalize rstL w slot 8 0 (y.stM slot 7 0) = B at *
  rw [side_flC t1.2.2.2]
  have t2 : Two (K + 1 + 8 + 1) (A.1.flM core slot) (B.1.flM core slot) := ⟨flM_ok t1.1, rflM_ok t1.2.1, flM_coh t1.2.2.1, side_flM t1.2.2.2 t1.2.1 _ _⟩
  split
  · exact ⟨rfl, t0.mono (by omega)⟩
  · split
    · exact ⟨e1, t1.mono (by omega)⟩
    · split
      · exact ⟨rfl, t2.mono (by omega)⟩
      · exact ⟨side_feC t2.2.2.2 _, ⟨(feM_ok t2.1).mono (by omega), (rfeM_ok t2.2.1).mono (by omega), feM_coh t2.2.2.1 t2.1, side_feM t2.2.2.2 t2.2.1 _⟩⟩

theorem rlW_eq (x0 x1 x2 x3 : Int) : rlW x0 x1 x2 x3 = slW x0 x1 x2 x3 := by
  unfold rlW slW
  rw [t0, t1, t2, t3, t4, t5, t6, t7]
theorem rbad_eq (s c : Int) : rbadW s c = badW s c := by
  unfold rbadW badW
  rw [Bool.eq_iff_iff]
  simp only [Bool.or_eq_true, Bool.and_eq_true, decide_eq_true_eq, bne_iff_ne, ne_eq]
  omega
theorem two_wrA {x0 x1 x2 x3 K : Int} {m : Mem} {y : RMem} (h : Two K m y) (hK : K ≤ 800000) (core slot : Int) :
    (rwrA (rlW x0 x1 x2 x3) (r_rLine_8 x0 x1 x2 x3) y core slot).2 = (wrA (slW x0 x1 x2 x3) (r_sLine_8 x0 x1 x2 x3) m core slot).2 ∧ Two (K + 20) (wrA (slW x0 x1 x2 x3) (r_sLine_8 x0 x1 x2 x3) m core slot).1 (rwrA (rlW x0 x1 x2 x3) (r_rLine_8 x0 x1 x2 x3) y core slot).1 := by
  unfold wrA rwrA
  rw [rlW_eq, t8, rbad_eq]
  cases badW slot (r_sLine_8 x0 x1 x2 x3) with
  | true => exact ⟨rfl, h.mono (by omega)⟩
  | false => exact two_wrM h hK core slot

theorem best_same (x0 x1 x2 x3 x4 x5 x6 x7 x8 x9 x10 x11 x12 x13 x14 x15 : Int) : ok_sBest x0 x1 x2 x3 x4 x5 x6 x7 x8 x9 x10 x11 x12 x13 x14 x15 = true ∧ ok_rBest x0 x1 x2 x3 x4 x5 x6 x7 x8 x9 x10 x11 x12 x13 x14 x15 = true ∧ r_rBest_0 x0 x1 x2 x3 x4 x5 x6 x7 x8 x9 x10 x11 x12 x13 x14 x15 = r_sBest_0 x0 x1 x2 x3 x4 x5 x6 x7 x8 x9 x10 x11 x12 x13 x14 x15 ∧ r_rBest_1 x0 x1 x2 x3 x4 x5 x6 x7 x8 x9 x10 x11 x12 x13 x14 x15 = r_sBest_1 x0 x1 x2 x3 x4 x5 x6 x7 x8 x9 x10 x11 x12 x13 x14 x15 ∧ r_rBest_2 x0 x1 x2 x3 x4 x5 x6 x7 x8 x9 x10 x11 x12 x13 x14 x15 = r_sBest_2 x0 x1 x2 x3 x4 x5 x6 x7 x8 x9 x10 x11 x12 x13 x14 x15 ∧ r_rBest_3 x0 x1 x2 x3 x4 x5 x6 x7 x8 x9 x10 x11 x12 x13 x14 x15 = r_sBest_3 x0 x1 x2 x3 x4 x5 x6 x7 x8 x9 x10 x11 x12 x13 x14 x15 ∧ r_rBest_4 x0 x1 x2 x3 x4 x5 x6 x7 x8 x9 x10 x11 x12 x13 x14 x15 = r_sBest_4 x0 x1 x2 x3 x4 x5 x6 x7 x8 x9 x10 x11 x12 x13 x14 x15 ∧ r_rBest_5 x0 x1 x2 x3 x4 x5 x6 x7 x8 x9 x10 x11 x12 x13 x14 x15 = r_sBest_5 x0 x1 x2 x3 x4 x5 x6 x7 x8 x9 x10 x11 x12 x13 x14 x15 := by
  simp only [r_sBest_0, r_rBest_0, r_sBest_1, r_rBest_1, r_sBest_2, r_rBest_2, r_sBest_3, r_rBest_3, r_sBest_4, r_rBest_4, r_sBest_5, r_rBest_5, ok_sBest, ok_rBest, u0, u1, u2, u3, u4, rk, uk, cond_true]
  cases hp : r_sRead_4 x0 x1 x2 x3 x4 x5 x6 x7 <;> cases hq : r_sRead_4 x8 x9 x10 x11 x12 x13 x14 x15
  · obtain ⟨p0, p1, p2, p3⟩ := read_no hp
    simp [p0, p1, p2, p3]
  · simp
  · simp
  · cases hd : decide (r_sRead_0 x8 x9 x10 x11 x12 x13 x14 x15 > r_sRead_0 x0 x1 x2 x3 x4 x5 x6 x7) <;> simp

theorem on16_eq {α : Type} {f : Int → Int → Int → Int → Int → Int → Int → Int → Int → Int → Int → Int → Int → Int → Int → Int → α} {K : Int} {m : Mem} {y : RMem} (h : Two K m y) : ron16 f y = on16 f m := by
  obtain ⟨_, h2, h3, h4⟩ := h
  unfold ron16 on16
  simp only [side_ldW h4 h2 h3 0 0 (by decide), side_ldW h4 h2 h3 0 1 (by decide), side_ldW h4 h2 h3 0 2 (by decide), side_ldW h4 h2 h3 0 3 (by decide), side_ldW h4 h2 h3 0 4 (by decide), side_ldW h4 h2 h3 0 5 (by decide), side_ldW h4 h2 h3 0 6 (by decide), side_ldW h4 h2 h3 0 7 (by decide), side_ldW h4 h2 h3 1 0 (by decide), side_ldW h4 h2 h3 1 1 (by decide), side_ldW h4 h2 h3 1 2 (by decide), side_ldW h4 h2 h3 1 3 (by decide), side_ldW h4 h2 h3 1 4 (by decide), side_ldW h4 h2 h3 1 5 (by decide), side_ldW h4 h2 h3 1 6 (by decide), side_ldW h4 h2 h3 1 7 (by decide)]

structure FindSame (m : Mem) (y : RMem) : Prop where
  ok : on16 ok_sBest m = true
  rok : ron16 ok_rBest y = true
  c : rfdC y = fdC m
  i0 : rfdI r_rBest_0 y = fdI r_sBest_0 m
  i1 : rfdI r_rBest_1 y = fdI r_sBest_1 m
  i2 : rfdI r_rBest_2 y = fdI r_sBest_2 m
  i3 : rfdI r_rBest_3 y = fdI r_sBest_3 m
  i4 : rfdI r_rBest_4 y = fdI r_sBest_4 m
theorem find_same {K : Int} {m : Mem} {y : RMem} (h : Two K m y) : FindSame m y := by
  obtain ⟨b1, b2, b3, b4, b5, b6, b7, b8⟩ := best_same (m.ldW 0 0) (m.ldW 0 1) (m.ldW 0 2) (m.ldW 0 3) (m.ldW 0 4) (m.ldW 0 5) (m.ldW 0 6) (m.ldW 0 7) (m.ldW 1 0) (m.ldW 1 1) (m.ldW 1 2) (m.ldW 1 3) (m.ldW 1 4) (m.ldW 1 5) (m.ldW 1 6) (m.ldW 1 7)
  have hc : rfdC y = fdC m := by
    unfold rfdC fdC
    rw [side_ldC h.2.2.2, side_ldC h.2.2.2, on16_eq h, show on16 r_rBest_5 m = on16 r_sBest_5 m from b8]
  refine ⟨b1, (on16_eq h).trans b2, hc, ?_, ?_, ?_, ?_, ?_⟩
  all_goals
    unfold rfdI fdI
    rw [hc, on16_eq h]
  · rw [show on16 r_rBest_0 m = on16 r_sBest_0 m from b3]
  · rw [show on16 r_rBest_1 m = on16 r_sBest_1 m from b4]
  · rw [show on16 r_rBest_2 m = on16 r_sBest_2 m from b5]
  · rw [show on16 r_rBest_3 m = on16 r_sBest_3 m from b6]
  · rw [show on16 r_rBest_4 m = on16 r_sBest_4 m from b7]

theorem rLine_ok (x0 x1 x2 x3 : Int) : ok_rLine x0 x1 x2 x3 = true := by
  have h := uk (x0 := 0) (x1 := x0) (x2 := x1) (x3 := x2) (x4 := x3) (x5 := 0) (x6 := 0) (x7 := 0)
  unfold ok_rLine
  rw [ok_rseal]
  simp

theorem vc_SuperWrites (x0 x1 x2 x3 x4 x5 x6 x7 x8 x9 x10 : Int) (n11 : Nat) (g11 : Nat → Nat → Int) (_a0 : IntKind.min .i64 ≤ x0) (_b0 : x0 ≤ IntKind.max .i64) (_a1 : IntKind.min .i64 ≤ x1) (_b1 : x1 ≤ IntKind.max .i64) (_a2 : IntKind.min .i64 ≤ x2) (_b2 : x2 ≤ IntKind.max .i64) (_a3 : IntKind.min .i64 ≤ x3) (_b3 : x3 ≤ IntKind.max .i64) (_a4 : IntKind.min .i64 ≤ x4) (_b4 : x4 ≤ IntKind.max .i64) (_a5 : IntKind.min .i64 ≤ x5) (_b5 : x5 ≤ IntKind.max .i64) (_a6 : IntKind.min .i64 ≤ x6) (_b6 : x6 ≤ IntKind.max .i64) (_a7 : IntKind.min .i64 ≤ x7) (_b7 : x7 ≤ IntKind.max .i64) (_a8 : IntKind.min .i64 ≤ x8) (_b8 : x8 ≤ IntKind.max .i64) (_a9 : IntKind.min .i64 ≤ x9) (_b9 : x9 ≤ IntKind.max .i64) (_a10 : IntKind.min .i64 ≤ x10) (b10 : x10 ≤ IntKind.max .i64) (_b : n11 ≤ maxLen) (w : ∀ (i c : Nat) (k : SK), i < n11 → [SK.n .i64][c]? = some k → wfS k (g11 i c)) :
    (T_SuperWrites x0 x1 x2 x3 x4 x5 x6 x7 x8 x9 x10 n11 g11).sat fun r => r = [.b true] := by
  have hq : KeepOk (fun j => g11 (0 + j) 0) n11 := fun j hj => w (0 + j) 0 (.n .i64) (by omega) rfl
  have h10 : x10 ≤ 9223372036854775807 := b10
  have t0 : Two 0 (newM 64) (rnewR 64 fun _ _ => 0) := ⟨newM_ok (by decide), rnewR_ok (by decide), newM_coh _, side_new _⟩
  obtain ⟨e1, t1⟩ := two_wrA (x0 := x2) (x1 := x3) (x2 := x4) (x3 := x5) t0 (by decide) 0 0
  unfold T_SuperWrites SuperWrites_c5 SuperWrites_c4 SuperWrites_c3 SuperWrites_c2 SuperWrites_c1 SuperWrites_c0
  generalize wrA (slW x2 x3 x4 x5) (r_sLine_8 x2 x3 x4 x5) (newM 64) 0 0 = A at *
  generalize rwrA (rlW x2 x3 x4 x5) (r_rLine_8 x2 x3 x4 x5) (rnewR 64 fun _ _ => 0) 0 0 = B at *
  have t2 : Two (0 + 20) (A.1.fuM x10) (B.1.fuM x10) := ⟨fuM_ok t1.1 h10, rfuM_ok t1.2.1 h10, t1.2.2.1, side_fuM t1.2.2.2 _⟩
  obtain ⟨e3, t3⟩ := two_wrA (x0 := x6) (x1 := x7) (x2 := x8) (x3 := x9) t2 (by decide) x0 x1
  generalize wrA (slW x6 x7 x8 x9) (r_sLine_8 x6 x7 x8 x9) (A.1.fuM x10) x0 x1 = C at *
  generalize rwrA (rlW x6 x7 x8 x9) (r_rLine_8 x6 x7 x8 x9) (B.1.fuM x10) x0 x1 = D at *
  have t4 : Two (0 + 20 + 20) (C.1.crM (fun j => g11 (0 + j) 0) n11) (D.1.crM (fun j => g11 (0 + j) 0) n11) := ⟨crM_ok t3.1, rcrM_ok t3.2.1, crM_coh t3.2.2.1, side_crM t3.2.2.2 t3.2.1 _ _⟩
  have f1 := find_same t3
  have f2 := find_same t4
  have ks : ∀ a b c d, ok_sLine a b c d = true := sk
  refine brT rfl (brF rfl (brF rfl (brT (pdec_yes (t0.1.mono (by decide))) (brT (ks _ _ _ _) (brT (pdec_yes (t0.2.1.mono (by decide))) (brT (rLine_ok _ _ _ _) (brT (pdec_yes (t2.1.mono (by decide))) (brT (ks _ _ _ _) (brT (pdec_yes (t2.2.1.mono (by decide))) (brT (rLine_ok _ _ _ _) ?_))))))))))
  refine brF (by rw [e1]; simp) (brF (by rw [e3]; simp) (brF (by rw [t3.2.2.2.steps]; simp) (brT f1.ok (brT (pdec_yes (t3.2.1.mono (by decide))) (brT f1.rok (brF (by rw [f1.i0, f1.i1, f1.i2, f1.i3]; simp) (brF (by rw [f1.i4]; simp) (brF (by rw [f1.c]; simp) ?_))))))))
  refine brT (pdec_yes (t3.1.mono (by decide))) (brT (pdec_yes hq) (brT (pdec_yes (t3.2.1.mono (by decide))) (brT (pdec_yes hq) (brT f2.ok (brT (pdec_yes (t4.2.1.mono (by decide))) (brT f2.rok (brT (by rw [f2.i0, f2.i1, f2.i2, f2.i3]; simp) (brT (by rw [f2.i4]; simp) (Tr.sat_ok.2 ?_)))))))))
  rw [f2.c]
  simp
end Go.Proofs.Ytgmhggipaopoiaa.G
end

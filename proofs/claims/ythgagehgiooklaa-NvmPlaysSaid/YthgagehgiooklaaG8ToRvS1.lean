/-
  What functions of the seat compute, printed by a program from the explorer.
-/
import Derived.Test.YthgagehgiooklaaG1ToG10
import Derived.KernelRfl
section
namespace Go.Proofs.Ythgagehgiooklaa.G
open Go Go.AM Go.Proofs
/-! ### the loop at 3 of crash -/

noncomputable def lsh_crash_3 : FSh := ⟨[.v false [.p 0 0], .any, .any, .v false [.p 4 0], .v false [.fn 34 [(4, 0)]], .any, .any, .any, .any, .any, .any, .any, .any, .v false [.k (.n .i64)], .v false [.k (.n .i64)], .any, .any, .any, .any, .any, .any, .any, .any, .any, .any, .any, .any, .any, .any, .any, .any, .any, .any, .any, .any, .any, .any, .any, .any, .any, .any, .any, .any, .any, .any, .any, .any, .any, .any, .any, .any, .any, .any, .any, .any, .any, .any, .any], [.cells [.sw 2 25, .k .b, .k .b, .k (.n .i64), .k (.n .i64)], .rows [.n .i64] false, .nrows [.n .u64, .n .u64, .n .u64, .n .u64, .n .u64, .n .u64, .n .u64, .n .u64, .n .u64, .n .u64, .n .u64, .n .u64, .n .u64, .n .u64, .n .u64, .n .u64, .n .i64, .n .i64, .n .i64, .n .i64, .n .i64, .n .i64, .n .i64, .n .i64, .n .i64] 16 [.n .i64, .n .u64] 5 false true, .no, .cells [.sq 1 1], .no]⟩
noncomputable def xsh_crash_3_0 : FSh := ⟨[.v false [.p 0 0], .any, .any, .any, .any, .any, .any, .any, .any, .any, .any, .any, .any, .any, .any, .any, .any, .any, .any, .any, .any, .any, .any, .any, .any, .any, .any, .any, .any, .any, .any, .any, .any, .any, .any, .any, .any, .any, .any, .any, .any, .any, .any, .any, .any, .any, .any, .any, .any, .any, .any, .any, .any, .any, .any, .any, .any, .any], [.cells [.sw 2 25, .k .b, .k .b, .k (.n .i64), .k (.n .i64)], .no, .nrows [.n .u64, .n .u64, .n .u64, .n .u64, .n .u64, .n .u64, .n .u64, .n .u64, .n .u64, .n .u64, .n .u64, .n .u64, .n .u64, .n .u64, .n .u64, .n .u64, .n .i64, .n .i64, .n .i64, .n .i64, .n .i64, .n .i64, .n .i64, .n .i64, .n .i64] 16 [.n .i64, .n .u64] 4 false true, .no, .no]⟩
noncomputable def xs_crash_3 : Exs := fun e => match e with
  | .normal => some lsh_crash_3
  | .exit n => (match Nat.beq n 0 with | true => some xsh_crash_3_0 | false => none)
  | .ret => none
noncomputable def B_crash_3 (x0 : Int) (x1 : Int) (x2 : Bool) (x3 : Bool) (x4 : Int) (x5 : Int) (n6 : Nat) (g6 : Nat → Nat → Int) (n7 : Nat) (g7 : Nat → Nat → Int) (h7 : Nat → Nat → Int) (x8 : Nat) (x9 : Nat) : Tr (Ex × List At) :=
 .br 15 (Decidable.decide (x1 < x0))
 (.br 22 (Go.AM.within x1 n7)
 (.br 29 (Decidable.decide ((↑(Int.toNat (g7 (Int.toNat x1) (16 : Nat))) : Int) > (0 : Int)))
 (.br 5 ((↑x9 : Int) == (0 : Int))
 (.br 35 (Go.IntKind.wrap Go.IntKind.i64 ((↑(Int.toNat (g7 (Int.toNat x1) (16 : Nat))) : Int) + (1 : Int)) != (0 : Int))
 (.br 0 (Go.Proofs.Ythgagehgiooklaa.G.pdec (Go.Proofs.Ythgagehgiooklaa.G.RowOk (g7 (Int.toNat x1)) (h7 (Int.toNat x1)) ∧ (0 : Int) ≤ Int.tmod (0 : Int) (Go.IntKind.wrap Go.IntKind.i64 ((↑(Int.toNat (g7 (Int.toNat x1) (16 : Nat))) : Int) + (1 : Int))) ∧ Int.tmod (0 : Int) (Go.IntKind.wrap Go.IntKind.i64 ((↑(Int.toNat (g7 (Int.toNat x1) (16 : Nat))) : Int) + (1 : Int))) ≤ g7 (Int.toNat x1) (16 : Nat)))
 (.br 0 (Bool.true)
 (.ok (.normal, [(.i (x0)), (.i (Go.IntKind.wrap Go.IntKind.i64 (x1 + (1 : Int)))), (.b (x2)), (.b (x3)), (.i (x4)), (.i (x5)), (.r (n6) (g6)), (.q (n7) (Go.AM.updG (Go.AM.updG (Go.AM.updG (Go.AM.updG (Go.AM.updG (Go.AM.updG (Go.AM.updG (Go.AM.updG (Go.AM.updG (Go.AM.updG (Go.AM.updG (Go.AM.updG (Go.AM.updG (Go.AM.updG (Go.AM.updG (Go.AM.updG (Go.AM.updG (Go.Proofs.Ythgagehgiooklaa.G.updR g7 (Int.toNat x1) (Go.Proofs.Ythgagehgiooklaa.G.rowS (g7 (Int.toNat x1)) (h7 (Int.toNat x1)) (Int.toNat (Int.tmod (0 : Int) (Go.IntKind.wrap Go.IntKind.i64 ((↑(Int.toNat (g7 (Int.toNat x1) (16 : Nat))) : Int) + (1 : Int))))))) (Int.toNat x1) (0 : Nat) (Go.Proofs.Ythgagehgiooklaa.G.updR g7 (Int.toNat x1) (Go.Proofs.Ythgagehgiooklaa.G.rowS (g7 (Int.toNat x1)) (h7 (Int.toNat x1)) (Int.toNat (Int.tmod (0 : Int) (Go.IntKind.wrap Go.IntKind.i64 ((↑(Int.toNat (g7 (Int.toNat x1) (16 : Nat))) : Int) + (1 : Int)))))) (Int.toNat x1) (8 : Nat))) (Int.toNat x1) (1 : Nat) (Go.Proofs.Ythgagehgiooklaa.G.updR g7 (Int.toNat x1) (Go.Proofs.Ythgagehgiooklaa.G.rowS (g7 (Int.toNat x1)) (h7 (Int.toNat x1)) (Int.toNat (Int.tmod (0 : Int) (Go.IntKind.wrap Go.IntKind.i64 ((↑(Int.toNat (g7 (Int.toNat x1) (16 : Nat))) : Int) + (1 : Int)))))) (Int.toNat x1) (9 : Nat))) (Int.toNat x1) (2 : Nat) (Go.Proofs.Ythgagehgiooklaa.G.updR g7 (Int.toNat x1) (Go.Proofs.Ythgagehgiooklaa.G.rowS (g7 (Int.toNat x1)) (h7 (Int.toNat x1)) (Int.toNat (Int.tmod (0 : Int) (Go.IntKind.wrap Go.IntKind.i64 ((↑(Int.toNat (g7 (Int.toNat x1) (16 : Nat))) : Int) + (1 : Int)))))) (Int.toNat x1) (10 : Nat))) (Int.toNat x1) (3 : Nat) (Go.Proofs.Ythgagehgiooklaa.G.updR g7 (Int.toNat x1) (Go.Proofs.Ythgagehgiooklaa.G.rowS (g7 (Int.toNat x1)) (h7 (Int.toNat x1)) (Int.toNat (Int.tmod (0 : Int) (Go.IntKind.wrap Go.IntKind.i64 ((↑(Int.toNat (g7 (Int.toNat x1) (16 : Nat))) : Int) + (1 : Int)))))) (Int.toNat x1) (11 : Nat))) (Int.toNat x1) (4 : Nat) (Go.Proofs.Ythgagehgiooklaa.G.updR g7 (Int.toNat x1) (Go.Proofs.Ythgagehgiooklaa.G.rowS (g7 (Int.toNat x1)) (h7 (Int.toNat x1)) (Int.toNat (Int.tmod (0 : Int) (Go.IntKind.wrap Go.IntKind.i64 ((↑(Int.toNat (g7 (Int.toNat x1) (16 : Nat))) : Int) + (1 : Int)))))) (Int.toNat x1) (12 : Nat))) (Int.toNat x1) (5 : Nat) (Go.Proofs.Ythgagehgiooklaa.G.updR g7 (Int.toNat x1) (Go.Proofs.Ythgagehgiooklaa.G.rowS (g7 (Int.toNat x1)) (h7 (Int.toNat x1)) (Int.toNat (Int.tmod (0 : Int) (Go.IntKind.wrap Go.IntKind.i64 ((↑(Int.toNat (g7 (Int.toNat x1) (16 : Nat))) : Int) + (1 : Int)))))) (Int.toNat x1) (13 : Nat))) (Int.toNat x1) (6 : Nat) (Go.Proofs.Ythgagehgiooklaa.G.updR g7 (Int.toNat x1) (Go.Proofs.Ythgagehgiooklaa.G.rowS (g7 (Int.toNat x1)) (h7 (Int.toNat x1)) (Int.toNat (Int.tmod (0 : Int) (Go.IntKind.wrap Go.IntKind.i64 ((↑(Int.toNat (g7 (Int.toNat x1) (16 : Nat))) : Int) + (1 : Int)))))) (Int.toNat x1) (14 : Nat))) (Int.toNat x1) (7 : Nat) (Go.Proofs.Ythgagehgiooklaa.G.updR g7 (Int.toNat x1) (Go.Proofs.Ythgagehgiooklaa.G.rowS (g7 (Int.toNat x1)) (h7 (Int.toNat x1)) (Int.toNat (Int.tmod (0 : Int) (Go.IntKind.wrap Go.IntKind.i64 ((↑(Int.toNat (g7 (Int.toNat x1) (16 : Nat))) : Int) + (1 : Int)))))) (Int.toNat x1) (15 : Nat))) (Int.toNat x1) (16 : Nat) (0 : Int)) (Int.toNat x1) (17 : Nat) (0 : Int)) (Int.toNat x1) (18 : Nat) (0 : Int)) (Int.toNat x1) (19 : Nat) (0 : Int)) (Int.toNat x1) (20 : Nat) (0 : Int)) (Int.toNat x1) (21 : Nat) (0 : Int)) (Int.toNat x1) (22 : Nat) (0 : Int)) (Int.toNat x1) (23 : Nat) (0 : Int)) (Int.toNat x1) (24 : Nat) (0 : Int)) ((16 : Nat)) ((2 : Nat)) (Go.Proofs.Ythgagehgiooklaa.G.updR h7 (Int.toNat x1) (Go.Proofs.Ythgagehgiooklaa.G.hS (h7 (Int.toNat x1)) (Int.toNat (Int.tmod (0 : Int) (Go.IntKind.wrap Go.IntKind.i64 ((↑(Int.toNat (g7 (Int.toNat x1) (16 : Nat))) : Int) + (1 : Int)))))))), (.n (x8)), (.n (x9))]))
 (.no))
 (.no))
 (.no))
 (.br 7 (Go.AM.within (0 : Int) x9)
 (.br 10 (Bool.true && Decidable.decide ((1 : Int) ≤ (↑x9 : Int)))
 (.br 12 (Decidable.decide (g6 (x8 + (0 : Nat)) (0 : Nat) < (0 : Int)))
 (.br 35 (Go.IntKind.wrap Go.IntKind.i64 ((↑(Int.toNat (g7 (Int.toNat x1) (16 : Nat))) : Int) + (1 : Int)) != (0 : Int))
 (.br 0 (Go.Proofs.Ythgagehgiooklaa.G.pdec (Go.Proofs.Ythgagehgiooklaa.G.RowOk (g7 (Int.toNat x1)) (h7 (Int.toNat x1)) ∧ (0 : Int) ≤ Int.tmod (Go.IntKind.wrap Go.IntKind.i64 ((0 : Int) - Go.IntKind.wrap Go.IntKind.i64 (g6 (x8 + (0 : Nat)) (0 : Nat) + (1 : Int)))) (Go.IntKind.wrap Go.IntKind.i64 ((↑(Int.toNat (g7 (Int.toNat x1) (16 : Nat))) : Int) + (1 : Int))) ∧ Int.tmod (Go.IntKind.wrap Go.IntKind.i64 ((0 : Int) - Go.IntKind.wrap Go.IntKind.i64 (g6 (x8 + (0 : Nat)) (0 : Nat) + (1 : Int)))) (Go.IntKind.wrap Go.IntKind.i64 ((↑(Int.toNat (g7 (Int.toNat x1) (16 : Nat))) : Int) + (1 : Int))) ≤ g7 (Int.toNat x1) (16 : Nat)))
 (.br 0 (Bool.true)
 (.ok (.normal, [(.i (x0)), (.i (Go.IntKind.wrap Go.IntKind.i64 (x1 + (1 : Int)))), (.b (x2)), (.b (x3)), (.i (x4)), (.i (x5)), (.r (n6) (g6)), (.q (n7) (Go.AM.updG (Go.AM.updG (Go.AM.updG (Go.AM.updG (Go.AM.updG (Go.AM.updG (Go.AM.updG (Go.AM.updG (Go.AM.updG (Go.AM.updG (Go.AM.updG (Go.AM.updG (Go.AM.updG (Go.AM.updG (Go.AM.updG (Go.AM.updG (Go.AM.updG (Go.Proofs.Ythgagehgiooklaa.G.updR g7 (Int.toNat x1) (Go.Proofs.Ythgagehgiooklaa.G.rowS (g7 (Int.toNat x1)) (h7 (Int.toNat x1)) (Int.toNat (Int.tmod (Go.IntKind.wrap Go.IntKind.i64 ((0 : Int) - Go.IntKind.wrap Go.IntKind.i64 (g6 (x8 + (0 : Nat)) (0 : Nat) + (1 : Int)))) (Go.IntKind.wrap Go.IntKind.i64 ((↑(Int.toNat (g7 (Int.toNat x1) (16 : Nat))) : Int) + (1 : Int))))))) (Int.toNat x1) (0 : Nat) (Go.Proofs.Ythgagehgiooklaa.G.updR g7 (Int.toNat x1) (Go.Proofs.Ythgagehgiooklaa.G.rowS (g7 (Int.toNat x1)) (h7 (Int.toNat x1)) (Int.toNat (Int.tmod (Go.IntKind.wrap Go.IntKind.i64 ((0 : Int) - Go.IntKind.wrap Go.IntKind.i64 (g6 (x8 + (0 : Nat)) (0 : Nat) + (1 : Int)))) (Go.IntKind.wrap Go.IntKind.i64 ((↑(Int.toNat (g7 (Int.toNat x1) (16 : Nat))) : Int) + (1 : Int)))))) (Int.toNat x1) (8 : Nat))) (Int.toNat x1) (1 : Nat) (Go.Proofs.Ythgagehgiooklaa.G.updR g7 (Int.toNat x1) (Go.Proofs.Ythgagehgiooklaa.G.rowS (g7 (Int.toNat x1)) (h7 (Int.toNat x1)) (Int.toNat (Int.tmod (Go.IntKind.wrap Go.IntKind.i64 ((0 : Int) - Go.IntKind.wrap Go.IntKind.i64 (g6 (x8 + (0 : Nat)) (0 : Nat) + (1 : Int)))) (Go.IntKind.wrap Go.IntKind.i64 ((↑(Int.toNat (g7 (Int.toNat x1) (16 : Nat))) : Int) + (1 : Int)))))) (Int.toNat x1) (9 : Nat))) (Int.toNat x1) (2 : Nat) (Go.Proofs.Ythgagehgiooklaa.G.updR g7 (Int.toNat x1) (Go.Proofs.Ythgagehgiooklaa.G.rowS (g7 (Int.toNat x1)) (h7 (Int.toNat x1)) (Int.toNat (Int.tmod (Go.IntKind.wrap Go.IntKind.i64 ((0 : Int) - Go.IntKind.wrap Go.IntKind.i64 (g6 (x8 + (0 : Nat)) (0 : Nat) + (1 : Int)))) (Go.IntKind.wrap Go.IntKind.i64 ((↑(Int.toNat (g7 (Int.toNat x1) (16 : Nat))) : Int) + (1 : Int)))))) (Int.toNat x1) (10 : Nat))) (Int.toNat x1) (3 : Nat) (Go.Proofs.Ythgagehgiooklaa.G.updR g7 (Int.toNat x1) (Go.Proofs.Ythgagehgiooklaa.G.rowS (g7 (Int.toNat x1)) (h7 (Int.toNat x1)) (Int.toNat (Int.tmod (Go.IntKind.wrap Go.IntKind.i64 ((0 : Int) - Go.IntKind.wrap Go.IntKind.i64 (g6 (x8 + (0 : Nat)) (0 : Nat) + (1 : Int)))) (Go.IntKind.wrap Go.IntKind.i64 ((↑(Int.toNat (g7 (Int.toNat x1) (16 : Nat))) : Int) + (1 : Int)))))) (Int.toNat x1) (11 : Nat))) (Int.toNat x1) (4 : Nat) (Go.Proofs.Ythgagehgiooklaa.G.updR g7 (Int.toNat x1) (Go.Proofs.Ythgagehgiooklaa.G.rowS (g7 (Int.toNat x1)) (h7 (Int.toNat x1)) (Int.toNat (Int.tmod (Go.IntKind.wrap Go.IntKind.i64 ((0 : Int) - Go.IntKind.wrap Go.IntKind.i64 (g6 (x8 + (0 : Nat)) (0 : Nat) + (1 : Int)))) (Go.IntKind.wrap Go.IntKind.i64 ((↑(Int.toNat (g7 (Int.toNat x1) (16 : Nat))) : Int) + (1 : Int)))))) (Int.toNat x1) (12 : Nat))) (Int.toNat x1) (5 : Nat) (Go.Proofs.Ythgagehgiooklaa.G.updR g7 (Int.toNat x1) (Go.Proofs.Ythgagehgiooklaa.G.rowS (g7 (Int.toNat x1)) (h7 (Int.toNat x1)) (Int.toNat (Int.tmod (Go.IntKind.wrap Go.IntKind.i64 ((0 : Int) - Go.IntKind.wrap Go.IntKind.i64 (g6 (x8 + (0 : Nat)) (0 : Nat) + (1 : Int)))) (Go.IntKind.wrap Go.IntKind.i64 ((↑(Int.toNat (g7 (Int.toNat x1) (16 : Nat))) : Int) + (1 : Int)))))) (Int.toNat x1) (13 : Nat))) (Int.toNat x1) (6 : Nat) (Go.Proofs.Ythgagehgiooklaa.G.updR g7 (Int.toNat x1) (Go.Proofs.Ythgagehgiooklaa.G.rowS (g7 (Int.toNat x1)) (h7 (Int.toNat x1)) (Int.toNat (Int.tmod (Go.IntKind.wrap Go.IntKind.i64 ((0 : Int) - Go.IntKind.wrap Go.IntKind.i64 (g6 (x8 + (0 : Nat)) (0 : Nat) + (1 : Int)))) (Go.IntKind.wrap Go.IntKind.i64 ((↑(Int.toNat (g7 (Int.toNat x1) (16 : Nat))) : Int) + (1 : Int)))))) (Int.toNat x1) (14 : Nat))) (Int.toNat x1) (7 : Nat) (Go.Proofs.Ythgagehgiooklaa.G.updR g7 (Int.toNat x1) (Go.Proofs.Ythgagehgiooklaa.G.rowS (g7 (Int.toNat x1)) (h7 (Int.toNat x1)) (Int.toNat (Int.tmod (Go.IntKind.wrap Go.IntKind.i64 ((0 : Int) - Go.IntKind.wrap Go.IntKind.i64 (g6 (x8 + (0 : Nat)) (0 : Nat) + (1 : Int)))) (Go.IntKind.wrap Go.IntKind.i64 ((↑(Int.toNat (g7 (Int.toNat x1) (16 : Nat))) : Int) + (1 : Int)))))) (Int.toNat x1) (15 : Nat))) (Int.toNat x1) (16 : Nat) (0 : Int)) (Int.toNat x1) (17 : Nat) (0 : Int)) (Int.toNat x1) (18 : Nat) (0 : Int)) (Int.toNat x1) (19 : Nat) (0 : Int)) (Int.toNat x1) (20 : Nat) (0 : Int)) (Int.toNat x1) (21 : Nat) (0 : Int)) (Int.toNat x1) (22 : Nat) (0 : Int)) (Int.toNat x1) (23 : Nat) (0 : Int)) (Int.toNat x1) (24 : Nat) (0 : Int)) ((16 : Nat)) ((2 : Nat)) (Go.Proofs.Ythgagehgiooklaa.G.updR h7 (Int.toNat x1) (Go.Proofs.Ythgagehgiooklaa.G.hS (h7 (Int.toNat x1)) (Int.toNat (Int.tmod (Go.IntKind.wrap Go.IntKind.i64 ((0 : Int) - Go.IntKind.wrap Go.IntKind.i64 (g6 (x8 + (0 : Nat)) (0 : Nat) + (1 : Int)))) (Go.IntKind.wrap Go.IntKind.i64 ((↑(Int.toNat (g7 (Int.toNat x1) (16 : Nat))) : Int) + (1 : Int)))))))), (.n (x8 + (1 : Nat))), (.n (Int.toNat (↑x9 : Int) - (1 : Nat)))]))
 (.no))
 (.no))
 (.no))
 (.br 35 (Go.IntKind.wrap Go.IntKind.i64 ((↑(Int.toNat (g7 (Int.toNat x1) (16 : Nat))) : Int) + (1 : Int)) != (0 : Int))
 (.br 0 (Go.Proofs.Ythgagehgiooklaa.G.pdec (Go.Proofs.Ythgagehgiooklaa.G.RowOk (g7 (Int.toNat x1)) (h7 (Int.toNat x1)) ∧ (0 : Int) ≤ Int.tmod (g6 (x8 + (0 : Nat)) (0 : Nat)) (Go.IntKind.wrap Go.IntKind.i64 ((↑(Int.toNat (g7 (Int.toNat x1) (16 : Nat))) : Int) + (1 : Int))) ∧ Int.tmod (g6 (x8 + (0 : Nat)) (0 : Nat)) (Go.IntKind.wrap Go.IntKind.i64 ((↑(Int.toNat (g7 (Int.toNat x1) (16 : Nat))) : Int) + (1 : Int))) ≤ g7 (Int.toNat x1) (16 : Nat)))
 (.br 0 (Bool.true)
 (.ok (.normal, [(.i (x0)), (.i (Go.IntKind.wrap Go.IntKind.i64 (x1 + (1 : Int)))), (.b (x2)), (.b (x3)), (.i (x4)), (.i (x5)), (.r (n6) (g6)), (.q (n7) (Go.AM.updG (Go.AM.updG (Go.AM.updG (Go.AM.updG (Go.AM.updG (Go.AM.updG (Go.AM.updG (Go.AM.updG (Go.AM.updG (Go.AM.updG (Go.AM.updG (Go.AM.updG (Go.AM.updG (Go.AM.updG (Go.AM.updG (Go.AM.updG (Go.AM.updG (Go.Proofs.Ythgagehgiooklaa.G.updR g7 (Int.toNat x1) (Go.Proofs.Ythgagehgiooklaa.G.rowS (g7 (Int.toNat x1)) (h7 (Int.toNat x1)) (Int.toNat (Int.tmod (g6 (x8 + (0 : Nat)) (0 : Nat)) (Go.IntKind.wrap Go.IntKind.i64 ((↑(Int.toNat (g7 (Int.toNat x1) (16 : Nat))) : Int) + (1 : Int))))))) (Int.toNat x1) (0 : Nat) (Go.Proofs.Ythgagehgiooklaa.G.updR g7 (Int.toNat x1) (Go.Proofs.Ythgagehgiooklaa.G.rowS (g7 (Int.toNat x1)) (h7 (Int.toNat x1)) (Int.toNat (Int.tmod (g6 (x8 + (0 : Nat)) (0 : Nat)) (Go.IntKind.wrap Go.IntKind.i64 ((↑(Int.toNat (g7 (Int.toNat x1) (16 : Nat))) : Int) + (1 : Int)))))) (Int.toNat x1) (8 : Nat))) (Int.toNat x1) (1 : Nat) (Go.Proofs.Ythgagehgiooklaa.G.updR g7 (Int.toNat x1) (Go.Proofs.Ythgagehgiooklaa.G.rowS (g7 (Int.toNat x1)) (h7 (Int.toNat x1)) (Int.toNat (Int.tmod (g6 (x8 + (0 : Nat)) (0 : Nat)) (Go.IntKind.wrap Go.IntKind.i64 ((↑(Int.toNat (g7 (Int.toNat x1) (16 : Nat))) : Int) + (1 : Int)))))) (Int.toNat x1) (9 : Nat))) (Int.toNat x1) (2 : Nat) (Go.Proofs.Ythgagehgiooklaa.G.updR g7 (Int.toNat x1) (Go.Proofs.Ythgagehgiooklaa.G.rowS (g7 (Int.toNat x1)) (h7 (Int.toNat x1)) (Int.toNat (Int.tmod (g6 (x8 + (0 : Nat)) (0 : Nat)) (Go.IntKind.wrap Go.IntKind.i64 ((↑(Int.toNat (g7 (Int.toNat x1) (16 : Nat))) : Int) + (1 : Int)))))) (Int.toNat x1) (10 : Nat))) (Int.toNat x1) (3 : Nat) (Go.Proofs.Ythgagehgiooklaa.G.updR g7 (Int.toNat x1) (Go.Proofs.Ythgagehgiooklaa.G.rowS (g7 (Int.toNat x1)) (h7 (Int.toNat x1)) (Int.toNat (Int.tmod (g6 (x8 + (0 : Nat)) (0 : Nat)) (Go.IntKind.wrap Go.IntKind.i64 ((↑(Int.toNat (g7 (Int.toNat x1) (16 : Nat))) : Int) + (1 : Int)))))) (Int.toNat x1) (11 : Nat))) (Int.toNat x1) (4 : Nat) (Go.Proofs.Ythgagehgiooklaa.G.updR g7 (Int.toNat x1) (Go.Proofs.Ythgagehgiooklaa.G.rowS (g7 (Int.toNat x1)) (h7 (Int.toNat x1)) (Int.toNat (Int.tmod (g6 (x8 + (0 : Nat)) (0 : Nat)) (Go.IntKind.wrap Go.IntKind.i64 ((↑(Int.toNat (g7 (Int.toNat x1) (16 : Nat))) : Int) + (1 : Int)))))) (Int.toNat x1) (12 : Nat))) (Int.toNat x1) (5 : Nat) (Go.Proofs.Ythgagehgiooklaa.G.updR g7 (Int.toNat x1) (Go.Proofs.Ythgagehgiooklaa.G.rowS (g7 (Int.toNat x1)) (h7 (Int.toNat x1)) (Int.toNat (Int.tmod (g6 (x8 + (0 : Nat)) (0 : Nat)) (Go.IntKind.wrap Go.IntKind.i64 ((↑(Int.toNat (g7 (Int.toNat x1) (16 : Nat))) : Int) + (1 : Int)))))) (Int.toNat x1) (13 : Nat))) (Int.toNat x1) (6 : Nat) (Go.Proofs.Ythgagehgiooklaa.G.updR g7 (Int.toNat x1) (Go.Proofs.Ythgagehgiooklaa.G.rowS (g7 (Int.toNat x1)) (h7 (Int.toNat x1)) (Int.toNat (Int.tmod (g6 (x8 + (0 : Nat)) (0 : Nat)) (Go.IntKind.wrap Go.IntKind.i64 ((↑(Int.toNat (g7 (Int.toNat x1) (16 : Nat))) : Int) + (1 : Int)))))) (Int.toNat x1) (14 : Nat))) (Int.toNat x1) (7 : Nat) (Go.Proofs.Ythgagehgiooklaa.G.updR g7 (Int.toNat x1) (Go.Proofs.Ythgagehgiooklaa.G.rowS (g7 (Int.toNat x1)) (h7 (Int.toNat x1)) (Int.toNat (Int.tmod (g6 (x8 + (0 : Nat)) (0 : Nat)) (Go.IntKind.wrap Go.IntKind.i64 ((↑(Int.toNat (g7 (Int.toNat x1) (16 : Nat))) : Int) + (1 : Int)))))) (Int.toNat x1) (15 : Nat))) (Int.toNat x1) (16 : Nat) (0 : Int)) (Int.toNat x1) (17 : Nat) (0 : Int)) (Int.toNat x1) (18 : Nat) (0 : Int)) (Int.toNat x1) (19 : Nat) (0 : Int)) (Int.toNat x1) (20 : Nat) (0 : Int)) (Int.toNat x1) (21 : Nat) (0 : Int)) (Int.toNat x1) (22 : Nat) (0 : Int)) (Int.toNat x1) (23 : Nat) (0 : Int)) (Int.toNat x1) (24 : Nat) (0 : Int)) ((16 : Nat)) ((2 : Nat)) (Go.Proofs.Ythgagehgiooklaa.G.updR h7 (Int.toNat x1) (Go.Proofs.Ythgagehgiooklaa.G.hS (h7 (Int.toNat x1)) (Int.toNat (Int.tmod (g6 (x8 + (0 : Nat)) (0 : Nat)) (Go.IntKind.wrap Go.IntKind.i64 ((↑(Int.toNat (g7 (Int.toNat x1) (16 : Nat))) : Int) + (1 : Int)))))))), (.n (x8 + (1 : Nat))), (.n (Int.toNat (↑x9 : Int) - (1 : Nat)))]))
 (.no))
 (.no))
 (.no)))
 (.no))
 (.no)))
 (.ok (.normal, [(.i (x0)), (.i (Go.IntKind.wrap Go.IntKind.i64 (x1 + (1 : Int)))), (.b (x2)), (.b (x3)), (.i (x4)), (.i (x5)), (.r (n6) (g6)), (.q (n7) (g7) ((16 : Nat)) ((2 : Nat)) (h7)), (.n (x8)), (.n (x9))])))
 (.no))
 (.ok (.exit 0, [(.b (x2)), (.b (x3)), (.i (x4)), (.i (x5)), (.q (n7) (g7) ((16 : Nat)) ((2 : Nat)) (h7))]))
noncomputable def y_crash_3 : Nat → Option Nat := (syOf3 [15, 22, 29, 5, 35, 7, 10, 12] [] [])
noncomputable def BL_crash_3 (l : List At) : Tr (Ex × List At) := B_crash_3 (aI l 0) (aI l 1) (aB l 2) (aB l 3) (aI l 4) (aI l 5) (aRn l 6) (aRg l 6) (aRn l 7) (aRg l 7) (aMh l 7 16 2) (aN l 8) (aN l 9)
theorem eB_crash_3 (l : List At) : (exec Try.prog Γ_next y_crash_3 noLoops 100 (loopAt Try.f18 3) ⟨mkV lsh_crash_3 l, mkH lsh_crash_3 l⟩).bind (leafL 4 xs_crash_3) = BL_crash_3 l := by kernel_rfl
/- by hand: O_crash_3 (x0 : Int) (x1 : Int) (x2 : Bool) (x3 : Bool) (x4 : Int) (x5 : Int) (n6 : Nat) (g6 : Nat → Nat → Int) (n7 : Nat) (g7 : Nat → Nat → Int) (h7 : Nat → Nat → Int) (x8 : Nat) (x9 : Nat) : Tr (Ex × List At); OL_crash_3 (l) := O_crash_3 (aI l 0) (aI l 1) (aB l 2) (aB l 3) (aI l 4) (aI l 5) (aRn l 6) (aRg l 6) (aRn l 7) (aRg l 7) (aMh l 7 16 2) (aN l 8) (aN l 9); μ_crash_3 : List At → Nat; rd_crash_3 : ∀ l r, (OL_crash_3 l).val = some r → RoundA BL_crash_3 OL_crash_3 μ_crash_3 l r -/

end Go.Proofs.Ythgagehgiooklaa.G
end

/-
  The loop of Crash: of each line some first stores become sure, the others are lost.
-/
section
namespace Go.Proofs.Ythgagehgiooklaa.G
open Go Go.AM Go.Proofs

theorem updG_ne {g : Nat → Nat → Int} {i j c : Nat} {x : Int} (h : j ≠ i) : updG g i c x j = g j := by
  rw [updG_row]; exact updR_ne h
theorem updG_at {g : Nat → Nat → Int} {i c c' : Nat} {x : Int} : updG g i c x i c' = if c' = c then x else g i c' := by
  rw [updG_row, updR_self]

def crChain (R : Nat → Nat → Int) (a : Nat) : Nat → Nat → Int :=
  updG (updG (updG (updG (updG (updG (updG (updG (updG (updG (updG (updG (updG (updG (updG (updG (updG R a 0 (R a 8)) a 1 (R a 9)) a 2 (R a 10)) a 3 (R a 11)) a 4 (R a 12)) a 5 (R a 13)) a 6 (R a 14)) a 7 (R a 15)) a 16 0) a 17 0) a 18 0) a 19 0) a 20 0) a 21 0) a 22 0) a 23 0) a 24 0

theorem cr_row (g h : Nat → Nat → Int) (a k : Nat) : crChain (updR g a (rowS (g a) (h a) k)) a = updR g a (crR (g a) (h a) k) := by
  unfold crChain
  funext i
  by_cases hi : i = a
  · subst hi
    funext c
    rw [updR_self, updR_self]
    simp only [updG_at, updR_self]
    match c with
    | 0 | 1 | 2 | 3 | 4 | 5 | 6 | 7 | 8 | 9 | 10 | 11 | 12 | 13 | 14 | 15 | 16 | 17 | 18 | 19 | 20 | 21 | 22 | 23 | 24 => rfl
    | c + 25 =>
      unfold rowS crR putS
      repeat rw [if_neg (by omega)]
  · simp only [updG_ne hi, updR_ne hi]

theorem cntU_congr {g g' : Nat → Nat → Int} : ∀ (d a : Nat), (∀ i, a ≤ i → i < a + d → g i = g' i) → cntU g a d = cntU g' a d
  | 0, _, _ => rfl
  | d + 1, a, h => by
    rw [cntU, cntU, h a (Nat.le_refl _) (by omega), cntU_congr d (a + 1) fun i h1 h2 => h i (by omega) (by omega)]

theorem cr_step {n : Nat} {g h : Nat → Nat → Int} {q q' : Nat → Int} {kn kn' a : Nat} (ha : a < n) (hk : g a 16 > 0) (hq : ∀ c, kv q' kn' c = kv q kn (c + 1)) :
    crG n (updR g a (crR (g a) (h a) (crK q kn 0 (g a 16)))) h q' kn' (a + 1) = crG n g h q kn a := by
  funext j
  unfold crG
  by_cases hj : j = a
  · subst hj
    rw [if_neg (by omega), updR_self, if_pos ⟨Nat.le_refl _, ha, hk⟩, Nat.sub_self]
    rfl
  · rw [updR_ne hj]
    by_cases hc : a ≤ j ∧ j < n ∧ g j 16 > 0
    · obtain ⟨d, hd⟩ : ∃ d, j = a + (d + 1) := ⟨j - (a + 1), by omega⟩
      rw [if_pos ⟨by omega, hc.2⟩, if_pos hc]
      congr 1
      have e1 : j - (a + 1) = d := by omega
      have e2 : j - a = d + 1 := by omega
      rw [e1, e2, cntU, if_pos hk, cntU_congr (g := updR g a _) (g' := g) d (a + 1) fun i h1 _ => updR_ne (by omega)]
      unfold crK
      rw [hq, Nat.add_comm 1]
    · rw [if_neg (fun hh => hc ⟨by omega, hh.2⟩), if_neg hc]

theorem cr_skip {n : Nat} {g h : Nat → Nat → Int} {q : Nat → Int} {kn a : Nat} (hk : ¬ g a 16 > 0) : crG n g h q kn (a + 1) = crG n g h q kn a := by
  funext j
  unfold crG
  by_cases hj : j = a
  · subst hj
    rw [if_neg (by omega), if_neg (fun hh => hk hh.2.2)]
  · by_cases hc : a ≤ j ∧ j < n ∧ g j 16 > 0
    · obtain ⟨d, hd⟩ : ∃ d, j = a + (d + 1) := ⟨j - (a + 1), by omega⟩
      have e1 : j - (a + 1) = d := by omega
      have e2 : j - a = d + 1 := by omega
      rw [if_pos ⟨by omega, hc.2⟩, if_pos hc, e1, e2, cntU, if_neg hk, Nat.zero_add]
    · rw [if_neg (fun hh => hc ⟨by omega, hh.2⟩), if_neg hc]

theorem cr_end {n : Nat} {g h : Nat → Nat → Int} {q : Nat → Int} {kn a : Nat} (ha : n ≤ a) : crG n g h q kn a = g := funext fun j => if_neg (by omega)

def preC (x0 x1 : Int) (n : Nat) (g h : Nat → Nat → Int) (q : Nat → Int) (kn : Nat) : Prop :=
  0 ≤ x1 ∧ x1 ≤ x0 ∧ x0 = n ∧ n ≤ 1073741824 ∧ (∀ i, x1.toNat ≤ i → i < n → RowOk (g i) (h i)) ∧ ∀ j, j < kn → -9223372036854775808 ≤ q j ∧ q j ≤ 9223372036854775807

noncomputable def O_crash_3 (x0 x1 : Int) (x2 x3 : Bool) (x4 x5 : Int) (_n6 : Nat) (g6 : Nat → Nat → Int) (n7 : Nat) (g7 h7 : Nat → Nat → Int) (x8 x9 : Nat) : Tr (Ex × List At) :=
  .br 0 (pdec (preC x0 x1 n7 g7 h7 (fun j => g6 (x8 + j) 0) x9)) (.ok (.exit 0, [.b x2, .b x3, .i x4, .i x5, .q n7 (crG n7 g7 h7 (fun j => g6 (x8 + j) 0) x9 x1.toNat) 16 2 h7])) .no
noncomputable def OL_crash_3 (l : List At) : Tr (Ex × List At) := O_crash_3 (aI l 0) (aI l 1) (aB l 2) (aB l 3) (aI l 4) (aI l 5) (aRn l 6) (aRg l 6) (aRn l 7) (aRg l 7) (aMh l 7 16 2) (aN l 8) (aN l 9)
def μ_crash_3 (l : List At) : Nat := (aI l 0 - aI l 1).toNat

theorem tmod_ok {v s : Int} (hv : 0 ≤ v) (hs : 0 ≤ s) : 0 ≤ Int.tmod v (s + 1) ∧ Int.tmod v (s + 1) ≤ s ∧ Int.tmod v (s + 1) = v % (s + 1) := by
  have e := Int.tmod_eq_emod_of_nonneg (b := s + 1) hv
  rw [e]
  have h1 := Int.emod_nonneg v (b := s + 1) (by omega)
  have h2 := Int.emod_lt_of_pos v (b := s + 1) (by omega)
  exact ⟨h1, by omega, rfl⟩

theorem rd_crash_3 : ∀ l r, (OL_crash_3 l).val = some r → RoundS BL_crash_3 OL_crash_3 μ_crash_3 l r := by
  intro l r h
  obtain ⟨hc, h⟩ := guard_val h
  obtain ⟨c0, c1, c2, c3, c4, c5⟩ := of_pdec hc
  have hr := val_ok h
  unfold RoundS BL_crash_3 B_crash_3
  generalize hx0 : aI l 0 = x0 at *
  generalize hx1 : aI l 1 = x1 at *
  generalize hn : aRn l 7 = n at *
  generalize hg : aRg l 7 = g at *
  generalize hh : aMh l 7 16 2 = hm at *
  generalize hn6 : aRn l 6 = n6 at *
  generalize hg6 : aRg l 6 = g6 at *
  generalize hx8 : aN l 8 = x8 at *
  generalize hx9 : aN l 9 = x9 at *
  generalize hb2 : aB l 2 = x2 at *
  generalize hb3 : aB l 3 = x3 at *
  generalize hi4 : aI l 4 = x4 at *
  generalize hi5 : aI l 5 = x5 at *
  refine brD (fun h1 => brW (fun _ => ?_) (fun hh => by exfalso; omega)) (fun h1 => ?_)
  · have hw : IntKind.i64.wrap (x1 + 1) = x1 + 1 := wrap_i64 (by omega) (by omega)
    have e2 : (x1 + 1).toNat = x1.toNat + 1 := by omega
    have hμ : (x0 - (x1 + 1)).toNat < μ_crash_3 l := by unfold μ_crash_3; rw [hx0, hx1]; omega
    have ho := c4 x1.toNat (Nat.le_refl _) (by omega)
    have ho1 := ho.1
    have ho2 := ho.2.1
    have e3 : ((g x1.toNat 16).toNat : Int) = g x1.toNat 16 := by omega
    rw [hw, e3, wrap_i64 (x := g x1.toNat 16 + 1) (by omega) (by omega)]
    -- how one goes on
    have go : ∀ (k : Int) (x8' x9' : Nat) (g' h' : Nat → Nat → Int), g x1.toNat 16 > 0 → k.toNat = crK (fun j => g6 (x8 + j) 0) x9 0 (g x1.toNat 16) → (∀ c, kv (fun j => g6 (x8' + j) 0) x9' c = kv (fun j => g6 (x8 + j) 0) x9 (c + 1)) → (∀ j, j < x9' → -9223372036854775808 ≤ g6 (x8' + j) 0 ∧ g6 (x8' + j) 0 ≤ 9223372036854775807) →
        g' = crChain (updR g x1.toNat (rowS (g x1.toNat) (hm x1.toNat) k.toNat)) x1.toNat → h' = updR hm x1.toNat (hS (hm x1.toNat) k.toNat) →
        (Tr.ok (Ex.normal, [At.i x0, .i (x1 + 1), .b x2, .b x3, .i x4, .i x5, .r n6 g6, .q n g' 16 2 h', .n x8', .n x9'])).sat fun p => (p.1 = .normal ∧ ∃ l2 r', AtsEq p.2 l2 ∧ μ_crash_3 l2 < μ_crash_3 l ∧ (OL_crash_3 l2).val = some r' ∧ r'.1 = r.1 ∧ AtsEq r'.2 r.2) ∨ (p.1 ≠ .normal ∧ r.1 = p.1 ∧ AtsEq p.2 r.2) := by
      intro k x8' x9' g' h' hpos hk hq hb hg' hh'
      have key := cr_step (n := n) (g := g) (h := hm) (q := fun j => g6 (x8 + j) 0) (q' := fun j => g6 (x8' + j) 0) (kn := x9) (kn' := x9') (a := x1.toNat) (by omega) hpos hq
      rw [cr_row, hk] at hg'
      have hpre : preC x0 (x1 + 1) n g' hm (fun j => g6 (x8' + j) 0) x9' := ⟨by omega, by omega, c2, c3, fun i h5 h6 => by
        rw [hg', updR_ne (by omega)]; exact c4 i (by omega) h6, hb⟩
      rw [← hg', ← e2] at key
      rw [← key] at h
      refine on_ [.i x0, .i (x1 + 1), .b x2, .b x3, .i x4, .i x5, .r n6 g6, .q n g' 16 2 hm, .n x8', .n x9'] r ?_ hμ ((br_t (g := 0) (pdec_yes hpre)).trans h) rfl (AtsEq.refl _)
      refine atsEq_cons (AtEq.refl _) (atsEq_cons (AtEq.refl _) (atsEq_cons (AtEq.refl _) (atsEq_cons (AtEq.refl _) (atsEq_cons (AtEq.refl _) (atsEq_cons (AtEq.refl _) (atsEq_cons (AtEq.refl _) (atsEq_cons ?_ (AtsEq.refl _))))))))
      refine atEq_q rfl (fun _ _ _ => rfl) fun i hi c hc => ?_
      by_cases hia : i = x1.toNat
      · subst hia
        rw [hg', updR_self, show crR (g x1.toNat) (hm x1.toNat) (crK (fun j => g6 (x8 + j) 0) x9 0 (g x1.toNat 16)) 16 = 0 from rfl] at hc
        exact absurd hc (by simp)
      · rw [hh', updR_ne hia]
    refine brD (fun h2 => ?_) (fun h2 => ?_)
    · refine brQ (fun h3 => ?_) (fun h3 => ?_)
      · have h9 : x9 = 0 := by omega
        obtain ⟨t1, t2, t3⟩ := tmod_ok (v := 0) (s := g x1.toNat 16) (by omega) ho1
        refine brNE (fun _ => brT (pdec_yes ⟨ho, t1, t2⟩) (brT rfl ?_)) (fun hh => by exfalso; omega)
        refine go _ _ _ _ _ h2 ?_ (fun c => ?_) (fun j hj => by omega) rfl rfl
        · rw [t3]; subst h9; rfl
        · subst h9; rfl
      · have h9 : 0 < x9 := by omega
        refine brW (fun _ => brT (by simp; omega) ?_) (fun hh => by exfalso; omega)
        rw [Nat.add_zero]
        have q12 : -9223372036854775808 ≤ g6 x8 0 ∧ g6 x8 0 ≤ 9223372036854775807 := c5 0 h9
        obtain ⟨q1, q2⟩ := q12
        have hqk : ∀ c, kv (fun j => g6 (x8 + 1 + j) 0) (x9 - 1) c = kv (fun j => g6 (x8 + j) 0) x9 (c + 1) := fun c => by
          unfold kv
          have e9 : (fun j => g6 (x8 + 1 + j) 0) c = (fun j => g6 (x8 + j) 0) (c + 1) := congrArg (fun j => g6 j 0) (by omega : x8 + 1 + c = x8 + (c + 1))
          rw [e9]
          by_cases hc9 : c + 1 < x9
          · rw [if_pos (show c < x9 - 1 by omega), if_pos hc9]
          · rw [if_neg (show ¬ c < x9 - 1 by omega), if_neg hc9]
        have hb9 : ∀ j, j < x9 - 1 → -9223372036854775808 ≤ g6 (x8 + 1 + j) 0 ∧ g6 (x8 + 1 + j) 0 ≤ 9223372036854775807 := fun j hj => by
          have := c5 (j + 1) (by omega)
          rw [show x8 + 1 + j = x8 + (j + 1) by omega]
          exact this
        have hkv : kv (fun j => g6 (x8 + j) 0) x9 0 = if g6 x8 0 < 0 then -(g6 x8 0 + 1) else g6 x8 0 := by
          unfold kv; rw [if_pos h9]; rfl
        refine brD (fun h4 => ?_) (fun h4 => ?_)
        · rw [wrap_i64 (x := g6 x8 0 + 1) (by omega) (by omega), wrap_i64 (x := 0 - (g6 x8 0 + 1)) (by omega) (by omega)]
          obtain ⟨t1, t2, t3⟩ := tmod_ok (v := 0 - (g6 x8 0 + 1)) (s := g x1.toNat 16) (by omega) ho1
          refine brNE (fun _ => brT (pdec_yes ⟨ho, t1, t2⟩) (brT rfl ?_)) (fun hh => by exfalso; omega)
          refine go _ _ _ _ _ h2 ?_ hqk hb9 rfl rfl
          rw [t3]; unfold crK; rw [hkv, if_pos h4, show 0 - (g6 x8 0 + 1) = -(g6 x8 0 + 1) by omega]
        · obtain ⟨t1, t2, t3⟩ := tmod_ok (v := g6 x8 0) (s := g x1.toNat 16) (by omega) ho1
          refine brNE (fun _ => brT (pdec_yes ⟨ho, t1, t2⟩) (brT rfl ?_)) (fun hh => by exfalso; omega)
          refine go _ _ _ _ _ h2 ?_ hqk hb9 rfl rfl
          rw [t3]; unfold crK; rw [hkv, if_neg h4]
    · have hpre : preC x0 (x1 + 1) n g hm (fun j => g6 (x8 + j) 0) x9 := ⟨by omega, by omega, c2, c3, fun i h5 h6 => c4 i (by omega) h6, c5⟩
      have key := cr_skip (n := n) (g := g) (h := hm) (q := fun j => g6 (x8 + j) 0) (kn := x9) (a := x1.toNat) h2
      rw [← key, ← e2] at h
      exact on_ _ r (AtsEq.refl _) hμ ((br_t (g := 0) (pdec_yes hpre)).trans h) rfl (AtsEq.refl _)
  · subst hr
    have key := cr_end (n := n) (g := g) (h := hm) (q := fun j => g6 (x8 + j) 0) (kn := x9) (a := x1.toNat) (by omega)
    refine out_ (by simp) rfl ?_
    show AtsEq _ [_, _, _, _, At.q n (crG n g hm (fun j => g6 (x8 + j) 0) x9 x1.toNat) 16 2 hm]
    rw [key]
    exact AtsEq.refl _
end Go.Proofs.Ythgagehgiooklaa.G
end

/-
  What functions of the seat compute, printed by a program from the explorer.
-/
section
namespace Go.Proofs.Ythgagehgiooklaa.G
open Go Go.AM Go.Proofs
theorem f_crash_3 : LoopF Try.prog 4 (loopAt Try.f18 3) (loopFn 4 lsh_crash_3 xs_crash_3 OL_crash_3) :=
  loop_sat (sy := y_crash_3) (fuel := 100) (Lp := noLoops) o_next mixed (loopsOK_at (noLoops_ok _) 3) rfl eB_crash_3 rd_crash_3
noncomputable def Lp_crash_3 : Loops := Loops.set noLoops 3 (loopFn 4 lsh_crash_3 xs_crash_3 OL_crash_3)
theorem lk_crash_3 : LoopsFn Try.prog 4 Lp_crash_3 Try.f18 := loopsFn_set (noLoops_ok _) (by kernel_rfl) f_crash_3

/-! ### crash -/

noncomputable def ish_crash : FSh := ⟨[.v false [.p 0 0], .v false [.vw 1 1]], [.cells [.sw 2 25, .k .b, .k .b, .k (.n .i64), .k (.n .i64)], .rows [.n .i64] false, .nrows [.n .u64, .n .u64, .n .u64, .n .u64, .n .u64, .n .u64, .n .u64, .n .u64, .n .u64, .n .u64, .n .u64, .n .u64, .n .u64, .n .u64, .n .u64, .n .u64, .n .i64, .n .i64, .n .i64, .n .i64, .n .i64, .n .i64, .n .i64, .n .i64, .n .i64] 16 [.n .i64, .n .u64] 3 false true, .no]⟩
noncomputable def osh_crash : FSh := ⟨[.tup []], [.cells [.sw 2 25, .k .b, .k .b, .k (.n .i64), .k (.n .i64)], .no, .nrows [.n .u64, .n .u64, .n .u64, .n .u64, .n .u64, .n .u64, .n .u64, .n .u64, .n .u64, .n .u64, .n .u64, .n .u64, .n .u64, .n .u64, .n .u64, .n .u64, .n .i64, .n .i64, .n .i64, .n .i64, .n .i64, .n .i64, .n .i64, .n .i64, .n .i64] 16 [.n .i64, .n .u64] 4 false true, .no, .no]⟩
noncomputable def T_crash (x0 : Bool) (x1 : Bool) (x2 : Int) (x3 : Int) (n4 : Nat) (g4 : Nat → Nat → Int) (n5 : Nat) (g5 : Nat → Nat → Int) (h5 : Nat → Nat → Int) : Tr (List At) :=
 .br 0 (Go.Proofs.Ythgagehgiooklaa.G.pdec (Go.Proofs.Ythgagehgiooklaa.G.preC (↑n5 : Int) (0 : Int) n5 g5 h5 (fun (j : Nat) => g4 ((0 : Nat) + j) (0 : Nat)) n4))
 (.ok [(.b (Bool.false)), (.b (Bool.false)), (.i (x2)), (.i (x3)), (.q (n5) (Go.Proofs.Ythgagehgiooklaa.G.crG n5 g5 h5 (fun (j : Nat) => g4 ((0 : Nat) + j) (0 : Nat)) n4 (0 : Nat)) ((16 : Nat)) ((2 : Nat)) (h5))])
 (.no)
noncomputable def y_crash : Nat → Option Nat := (syOf3 [] [] [])
noncomputable def TL_crash (l : List At) : Tr (List At) := T_crash (aB l 0) (aB l 1) (aI l 2) (aI l 3) (aRn l 4) (aRg l 4) (aRn l 5) (aRg l 5) (aMh l 5 16 2)
theorem e_crash (l : List At) : (call Try.prog Γ_next y_crash Lp_crash_3 100 Try.f18 (mkV ish_crash l) (mkH ish_crash l)).bind (leafO 4 osh_crash) = TL_crash l := by kernel_rfl
noncomputable def F_crash : List At → Tr (List At) := TL_crash
theorem s_crash : SpecF Try.prog 18 (.eff (locF ish_crash osh_crash F_crash)) :=
  spec_loc (sy := y_crash) (fuel := 100) (Lp := Lp_crash_3) o_next mixed ⟨Try.func18, by kernel_rfl, by kernel_rfl⟩ ish_crash osh_crash lk_crash_3 (hT_ways e_crash)
noncomputable def Γ_crash : Specs := upd Γ_next 18 (.eff (locF ish_crash osh_crash F_crash))
theorem o_crash : SpecOK Try.prog Γ_crash := SpecOK.upd o_next s_crash

end Go.Proofs.Ythgagehgiooklaa.G
end

/-
  What functions of the seat compute, printed by a program from the explorer.
-/
section
namespace Go.Proofs.Ythgagehgiooklaa.G
open Go Go.AM Go.Proofs
/-! ### the loop at 3 of sure -/

noncomputable def lsh_sure_3 : FSh := ⟨[.any, .any, .any, .v false [.sw 3 8], .any, .any, .any, .any, .any, .v false [.sq 1 25], .v false [.k (.n .i64)], .v false [.k (.n .i64)], .any, .any, .any, .any, .any, .any, .any, .any, .any, .any], [.no, .nrows [.n .u64, .n .u64, .n .u64, .n .u64, .n .u64, .n .u64, .n .u64, .n .u64, .n .u64, .n .u64, .n .u64, .n .u64, .n .u64, .n .u64, .n .u64, .n .u64, .n .i64, .n .i64, .n .i64, .n .i64, .n .i64, .n .i64, .n .i64, .n .i64, .n .i64] 16 [.n .i64, .n .u64] 2 false false, .no, .rows [.n .u64, .n .u64, .n .u64, .n .u64, .n .u64, .n .u64, .n .u64, .n .u64] true]⟩
noncomputable def xsh_sure_3_0 : FSh := ⟨[.any, .any, .any, .v false [.sw 3 8], .any, .any, .any, .any, .any, .any, .any, .any, .any, .any, .any, .any, .any, .any, .any, .any, .any, .any], [.no, .no, .no, .rows [.n .u64, .n .u64, .n .u64, .n .u64, .n .u64, .n .u64, .n .u64, .n .u64] true]⟩
noncomputable def xs_sure_3 : Exs := fun e => match e with
  | .normal => some lsh_sure_3
  | .exit n => (match Nat.beq n 0 with | true => some xsh_sure_3_0 | false => none)
  | .ret => none
noncomputable def B_sure_3 (x0 : Nat) (x1 : Nat) (x2 : Int) (x3 : Int) (n4 : Nat) (g4 : Nat → Nat → Int) (h4 : Nat → Nat → Int) (n5 : Nat) (g5 : Nat → Nat → Int) : Tr (Ex × List At) :=
 .br 12 (Decidable.decide (x3 < x2))
 (.br 13 (Go.AM.within x3 x1)
 (.br 19 (Decidable.decide (n5 + (1 : Nat) ≤ (2199023255552 : Nat)))
 (.ok (.normal, [(.n (x0)), (.n (x1)), (.i (x2)), (.i (Go.IntKind.wrap Go.IntKind.i64 (x3 + (1 : Int)))), (.q (n4) (g4) ((16 : Nat)) ((2 : Nat)) (h4)), (.r (n5 + (1 : Nat)) (Go.AM.appG g5 n5 (Go.AM.rowsF [[g4 (x0 + Int.toNat x3) (8 : Nat), g4 (x0 + Int.toNat x3) (9 : Nat), g4 (x0 + Int.toNat x3) (10 : Nat), g4 (x0 + Int.toNat x3) (11 : Nat), g4 (x0 + Int.toNat x3) (12 : Nat), g4 (x0 + Int.toNat x3) (13 : Nat), g4 (x0 + Int.toNat x3) (14 : Nat), g4 (x0 + Int.toNat x3) (15 : Nat)]])))]))
 (.no))
 (.no))
 (.ok (.exit 0, [(.r (n5) (g5))]))
noncomputable def y_sure_3 : Nat → Option Nat := (syOf3 [12, 13, 19] [] [])
noncomputable def BL_sure_3 (l : List At) : Tr (Ex × List At) := B_sure_3 (aN l 0) (aN l 1) (aI l 2) (aI l 3) (aRn l 4) (aRg l 4) (aMh l 4 16 2) (aRn l 5) (aRg l 5)
theorem eB_sure_3 (l : List At) : (exec Try.prog Γ_next y_sure_3 noLoops 100 (loopAt Try.f23 3) ⟨mkV lsh_sure_3 l, mkH lsh_sure_3 l⟩).bind (leafL 3 xs_sure_3) = BL_sure_3 l := by kernel_rfl
/- by hand: O_sure_3 (x0 : Nat) (x1 : Nat) (x2 : Int) (x3 : Int) (n4 : Nat) (g4 : Nat → Nat → Int) (h4 : Nat → Nat → Int) (n5 : Nat) (g5 : Nat → Nat → Int) : Tr (Ex × List At); OL_sure_3 (l) := O_sure_3 (aN l 0) (aN l 1) (aI l 2) (aI l 3) (aRn l 4) (aRg l 4) (aMh l 4 16 2) (aRn l 5) (aRg l 5); μ_sure_3 : List At → Nat; rd_sure_3 : ∀ l r, (OL_sure_3 l).val = some r → RoundA BL_sure_3 OL_sure_3 μ_sure_3 l r -/

end Go.Proofs.Ythgagehgiooklaa.G
end

/-
  The loop of Sure: the sure words of each line.
-/
section
namespace Go.Proofs.Ythgagehgiooklaa.G
open Go Go.AM Go.Proofs

/-- The sure words of 'm' lines, behind 'a' rows that are there. -/
def suA (g4 : Nat → Nat → Int) (o : Nat) (g5 : Nat → Nat → Int) (a : Nat) : Nat → Nat → Int := fun j c => if j < a then g5 j c else if c < 8 then g4 (o + (j - a)) (8 + c) else 0

def preU (x1 : Nat) (x2 x3 : Int) (n5 : Nat) : Prop := 0 ≤ x3 ∧ x3 ≤ x2 ∧ x2 = x1 ∧ n5 = x3.toNat ∧ x1 ≤ 1073741824
noncomputable def O_sure_3 (x0 x1 : Nat) (x2 x3 : Int) (_n4 : Nat) (g4 _h4 : Nat → Nat → Int) (n5 : Nat) (g5 : Nat → Nat → Int) : Tr (Ex × List At) :=
  .br 0 (pdec (preU x1 x2 x3 n5)) (.ok (.exit 0, [.r x1 (suA g4 (x0 + x3.toNat) g5 n5)])) .no
noncomputable def OL_sure_3 (l : List At) : Tr (Ex × List At) := O_sure_3 (aN l 0) (aN l 1) (aI l 2) (aI l 3) (aRn l 4) (aRg l 4) (aMh l 4 16 2) (aRn l 5) (aRg l 5)
def μ_sure_3 (l : List At) : Nat := (aI l 2 - aI l 3).toNat

theorem rd_sure_3 : ∀ l r, (OL_sure_3 l).val = some r → RoundS BL_sure_3 OL_sure_3 μ_sure_3 l r := by
  intro l r h
  obtain ⟨hc, h⟩ := guard_val h
  obtain ⟨c0, c1, c2, c3, c4⟩ := of_pdec hc
  have hr := val_ok h
  unfold RoundS BL_sure_3 B_sure_3
  generalize hx0 : aN l 0 = x0 at *
  generalize hx1 : aN l 1 = x1 at *
  generalize hx2 : aI l 2 = x2 at *
  generalize hx3 : aI l 3 = x3 at *
  generalize hg4 : aRg l 4 = g4 at *
  generalize hn5 : aRn l 5 = n5 at *
  generalize hg5 : aRg l 5 = g5 at *
  refine brD (fun h1 => brW (fun _ => brD (fun _ => ?_) (fun hh => by exfalso; omega)) (fun hh => by exfalso; omega)) (fun h1 => ?_)
  · have hw : IntKind.i64.wrap (x3 + 1) = x3 + 1 := wrap_i64 (by omega) (by omega)
    have e2 : (x3 + 1).toNat = x3.toNat + 1 := by omega
    have hμ : (x2 - (x3 + 1)).toNat < μ_sure_3 l := by unfold μ_sure_3; rw [hx2, hx3]; omega
    rw [hw]
    have hq : preU x1 x2 (x3 + 1) (n5 + 1) := ⟨by omega, by omega, c2, by omega, c4⟩
    generalize hG : appG g5 n5 (rowsF [[g4 (x0 + x3.toNat) 8, g4 (x0 + x3.toNat) 9, g4 (x0 + x3.toNat) 10, g4 (x0 + x3.toNat) 11, g4 (x0 + x3.toNat) 12, g4 (x0 + x3.toNat) 13, g4 (x0 + x3.toNat) 14, g4 (x0 + x3.toNat) 15]]) = G
    have key : suA g4 (x0 + (x3 + 1).toNat) G (n5 + 1) = suA g4 (x0 + x3.toNat) g5 n5 := by
      funext j c
      rw [e2, ← hG]
      unfold suA
      by_cases hj : j < n5
      · rw [if_pos (show j < n5 + 1 by omega), if_pos hj]; exact if_pos hj
      · rw [if_neg hj]
        by_cases hj2 : j = n5
        · subst hj2
          rw [if_pos (Nat.lt_succ_self _), Nat.sub_self, Nat.add_zero]
          refine (if_neg hj).trans ?_
          rw [Nat.sub_self]
          match c with
          | 0 | 1 | 2 | 3 | 4 | 5 | 6 | 7 => rfl
          | c + 8 => rw [if_neg (show ¬ c + 8 < 8 by omega)]; rfl
        · rw [if_neg (show ¬ j < n5 + 1 by omega), show x0 + (x3.toNat + 1) + (j - (n5 + 1)) = x0 + x3.toNat + (j - n5) by omega]
    rw [← key] at h
    exact on_ _ r (AtsEq.refl _) hμ ((br_t (g := 0) (pdec_yes hq)).trans h) rfl (AtsEq.refl _)
  · subst hr
    refine out_ (by simp) rfl ?_
    refine atsEq_cons ?_ atsEq_nil
    have hx : x1 = n5 := by omega
    subst hx
    exact ⟨rfl, fun j hj c => (if_pos hj).symm⟩
end Go.Proofs.Ythgagehgiooklaa.G
end

/-
  What functions of the seat compute, printed by a program from the explorer.
-/
section
namespace Go.Proofs.Ythgagehgiooklaa.G
open Go Go.AM Go.Proofs
theorem f_sure_3 : LoopF Try.prog 3 (loopAt Try.f23 3) (loopFn 3 lsh_sure_3 xs_sure_3 OL_sure_3) :=
  loop_sat (sy := y_sure_3) (fuel := 100) (Lp := noLoops) o_next mixed (loopsOK_at (noLoops_ok _) 3) rfl eB_sure_3 rd_sure_3
noncomputable def Lp_sure_3 : Loops := Loops.set noLoops 3 (loopFn 3 lsh_sure_3 xs_sure_3 OL_sure_3)
theorem lk_sure_3 : LoopsFn Try.prog 3 Lp_sure_3 Try.f23 := loopsFn_set (noLoops_ok _) (by kernel_rfl) f_sure_3

/-! ### sure -/

noncomputable def ish_sure : FSh := ⟨[.v false [.p 0 0]], [.roc [.sw 1 25, .k .b, .k .b, .k (.n .i64), .k (.n .i64)], .nrows [.n .u64, .n .u64, .n .u64, .n .u64, .n .u64, .n .u64, .n .u64, .n .u64, .n .u64, .n .u64, .n .u64, .n .u64, .n .u64, .n .u64, .n .u64, .n .u64, .n .i64, .n .i64, .n .i64, .n .i64, .n .i64, .n .i64, .n .i64, .n .i64, .n .i64] 16 [.n .i64, .n .u64] 2 false false, .no]⟩
noncomputable def osh_sure : FSh := ⟨[.v false [.sw 3 8]], [.no, .no, .no, .rows [.n .u64, .n .u64, .n .u64, .n .u64, .n .u64, .n .u64, .n .u64, .n .u64] true]⟩
noncomputable def T_sure (x0 : Bool) (x1 : Bool) (x2 : Int) (x3 : Int) (n4 : Nat) (g4 : Nat → Nat → Int) (h4 : Nat → Nat → Int) : Tr (List At) :=
 .br 0 (Go.Proofs.Ythgagehgiooklaa.G.pdec (Go.Proofs.Ythgagehgiooklaa.G.preU n4 (↑n4 : Int) (0 : Int) (0 : Nat)))
 (.ok [(.r (n4) (Go.Proofs.Ythgagehgiooklaa.G.suA g4 (0 : Nat) (fun (_ _ : Nat) => (0 : Int)) (0 : Nat)))])
 (.no)
noncomputable def y_sure : Nat → Option Nat := (syOf3 [] [] [])
noncomputable def TL_sure (l : List At) : Tr (List At) := T_sure (aB l 0) (aB l 1) (aI l 2) (aI l 3) (aRn l 4) (aRg l 4) (aMh l 4 16 2)
theorem e_sure (l : List At) : (call Try.prog Γ_next y_sure Lp_sure_3 100 Try.f23 (mkV ish_sure l) (mkH ish_sure l)).bind (leafO 3 osh_sure) = TL_sure l := by kernel_rfl
noncomputable def F_sure : List At → Tr (List At) := TL_sure
theorem s_sure : SpecF Try.prog 23 (.eff (locF ish_sure osh_sure F_sure)) :=
  spec_loc (sy := y_sure) (fuel := 100) (Lp := Lp_sure_3) o_next mixed ⟨Try.func23, by kernel_rfl, by kernel_rfl⟩ ish_sure osh_sure lk_sure_3 (hT_ways e_sure)
noncomputable def Γ_sure : Specs := upd Γ_next 23 (.eff (locF ish_sure osh_sure F_sure))
theorem o_sure : SpecOK Try.prog Γ_sure := SpecOK.upd o_next s_sure

/-! ### fusem -/

noncomputable def ish_fusem : FSh := ⟨[.v false [.p 0 0], .v false [.k (.n .i64)]], [.cells [.sw 1 25, .k .b, .k .b, .k (.n .i64), .k (.n .i64)], .nrows [.n .u64, .n .u64, .n .u64, .n .u64, .n .u64, .n .u64, .n .u64, .n .u64, .n .u64, .n .u64, .n .u64, .n .u64, .n .u64, .n .u64, .n .u64, .n .u64, .n .i64, .n .i64, .n .i64, .n .i64, .n .i64, .n .i64, .n .i64, .n .i64, .n .i64] 16 [.n .i64, .n .u64] 2 false true, .no]⟩
noncomputable def osh_fusem : FSh := ⟨[.tup []], [.cells [.sw 1 25, .k .b, .k .b, .k (.n .i64), .k (.n .i64)], .nrows [.n .u64, .n .u64, .n .u64, .n .u64, .n .u64, .n .u64, .n .u64, .n .u64, .n .u64, .n .u64, .n .u64, .n .u64, .n .u64, .n .u64, .n .u64, .n .u64, .n .i64, .n .i64, .n .i64, .n .i64, .n .i64, .n .i64, .n .i64, .n .i64, .n .i64] 16 [.n .i64, .n .u64] 2 false true, .no]⟩
noncomputable def T_fusem (x0 : Int) (x1 : Bool) (x2 : Bool) (x3 : Int) (x4 : Int) (n5 : Nat) (g5 : Nat → Nat → Int) (h5 : Nat → Nat → Int) : Tr (List At) :=
 .ok [(.b (x1)), (.b (Decidable.decide (x0 ≥ (0 : Int)))), (.i (x0)), (.i (x4)), (.q (n5) (g5) ((16 : Nat)) ((2 : Nat)) (h5))]
noncomputable def y_fusem : Nat → Option Nat := (syOf3 [] [] [])
noncomputable def TL_fusem (l : List At) : Tr (List At) := T_fusem (aI l 0) (aB l 1) (aB l 2) (aI l 3) (aI l 4) (aRn l 5) (aRg l 5) (aMh l 5 16 2)
theorem e_fusem (l : List At) : (call Try.prog Γ_sure y_fusem noLoops 100 Try.f20 (mkV ish_fusem l) (mkH ish_fusem l)).bind (leafO 3 osh_fusem) = TL_fusem l := by kernel_rfl
noncomputable def F_fusem : List At → Tr (List At) := TL_fusem
theorem s_fusem : SpecF Try.prog 20 (.eff (locF ish_fusem osh_fusem F_fusem)) :=
  spec_loc (sy := y_fusem) (fuel := 100) (Lp := noLoops) o_sure mixed ⟨Try.func20, by kernel_rfl, by kernel_rfl⟩ ish_fusem osh_fusem (noLoops_ok _) (hT_ways e_fusem)
noncomputable def Γ_fusem : Specs := upd Γ_sure 20 (.eff (locF ish_fusem osh_fusem F_fusem))
theorem o_fusem : SpecOK Try.prog Γ_fusem := SpecOK.upd o_sure s_fusem

end Go.Proofs.Ythgagehgiooklaa.G
end

/-
  All calls of a memory, restated: what each makes of it.
-/
section
namespace Go.Proofs.Ythgagehgiooklaa.G
open Go Go.AM Go.Proofs

def mmC (l : List At) : Mem := ⟨aRn l 5, aRg l 5, aMh l 5 16 2, aB l 0, aB l 1, aI l 2, aI l 3⟩
def Mem.ldC (m : Mem) (i : Int) : Int := bif decide (i < 0) || decide (i ≥ (m.n : Int)) then 1 else bif m.off then 4 else 0
def Mem.ldW (m : Mem) (i : Int) (c : Nat) : Int := bif m.ldC i == 0 then m.g i.toNat c else 0

theorem cod_po {m : Mem} (h : codeI m.off m.burns m.left ≠ 0) : m.po = true := by
  cases hp : m.po with
  | true => rfl
  | false => exact absurd (po_cod hp) h
theorem po_of_cod {m : Mem} (h : codeI m.off m.burns m.left = 0) : m.po = false := by
  cases hp : m.po with
  | false => rfl
  | true => have e : m.cod = 4 := po_cod4 hp; unfold Mem.cod at e; rw [h] at e; cases e

/-! ### Store -/

theorem t_store (m : Mem) (x0 x1 x2 : Int) (hm : m.Ok 900000) : (T_store x0 x1 x2 m.off m.burns m.left m.steps m.n m.g m.h).sat fun r => AtsEq r (.i (m.stC x0 x1) :: (m.stM x0 x1 x2).ats) := by
  obtain ⟨o1, o2, o3, o4, o5⟩ := hm
  have bad : m.bad x0 x1 = true → AtsEq [.i 1, .b m.off, .b m.burns, .i m.left, .i m.steps, .q m.n m.g 16 2 m.h] (.i (m.stC x0 x1) :: (m.stM x0 x1 x2).ats) := fun h => by
    unfold Mem.stC Mem.stM; rw [h]; exact AtsEq.refl _
  have dead : m.bad x0 x1 = false → m.po = true → AtsEq [.i (codeI m.off m.burns m.left), .b (offB m.off m.burns m.left), .b m.burns, .i (leftI m.off m.burns m.left), .i (stepsI m.off m.burns m.left m.steps), .q m.n m.g 16 2 m.h] (.i (m.stC x0 x1) :: (m.stM x0 x1 x2).ats) := fun h hp => by
    unfold Mem.stC Mem.stM; rw [h, hp]; exact AtsEq.refl _
  unfold T_store store_c4 store_c5
  refine brD (fun h0 => brT rfl (Tr.sat_ok.2 (bad (by simp [Mem.bad, h0])))) fun h0 => brD (fun h1 => brT rfl (Tr.sat_ok.2 (bad (by simp [Mem.bad]; omega)))) fun h1 => brW (fun _ => brD (fun h2 => Tr.sat_ok.2 (bad (by simp [Mem.bad]; omega))) fun h2 => brD (fun h3 => Tr.sat_ok.2 (bad (by simp [Mem.bad]; omega))) fun h3 => ?_) (fun hh => by exfalso; omega)
  have hb : m.bad x0 x1 = false := by simp [Mem.bad]; omega
  refine brT (pdec_yes o1) (brT (pdec_yes (by omega)) (brNE (fun hc => Tr.sat_ok.2 (dead hb (cod_po hc))) fun hc => brW (fun _ => ?_) (fun hh => by exfalso; omega)))
  have hp := po_of_cod hc
  have ho := (o5 x0.toNat (by omega)).1
  have e1 : updG m.g x0.toNat (0 + x1.toNat * 1) x2 = updR m.g x0.toNat (fun c => if c = x1.toNat then x2 else m.g x0.toNat c) := by rw [updG_row, Nat.zero_add, Nat.mul_one]
  have e2 : updR m.g x0.toNat (fun c => if c = x1.toNat then x2 else m.g x0.toNat c) x0.toNat 16 = m.g x0.toNat 16 := by rw [updR_self]; exact if_neg (by omega)
  rw [e1, e2]
  have ho1 := ho.1
  have ho2 := ho.2.1
  refine brT (decide_eq_true (by omega)) (brT (Nat.beq_refl _) (Tr.sat_ok.2 ?_))
  unfold Mem.stC Mem.stM
  rw [hb, hp]
  have hcod : m.cod = 0 := po_cod hp
  have hg : updG (updR m.g x0.toNat (fun c => if c = x1.toNat then x2 else m.g x0.toNat c)) x0.toNat 16 (((m.g x0.toNat 16).toNat + 1 : Nat) : Int) = updR m.g x0.toNat (stR (m.g x0.toNat) x1.toNat x2) := by
    rw [updG_row, updR_updR, updR_self]
    congr 1
    funext c
    unfold stR
    by_cases h5 : c = 16
    · rw [if_pos h5, if_pos h5]; omega
    · rw [if_neg h5, if_neg h5]
  rw [hg]
  refine atsEq_cons (by show At.i 0 = At.i m.cod; rw [hcod]) (atsEq_cons (AtEq.refl _) (atsEq_cons (AtEq.refl _) (atsEq_cons (AtEq.refl _) (atsEq_cons (AtEq.refl _) (atsEq_cons ?_ atsEq_nil)))))
  refine atEq_q rfl (fun _ _ _ => rfl) fun i hi k hk => ?_
  show putM m.h x0.toNat 2 _ i k = updR m.h x0.toNat _ i k
  unfold putM updR
  by_cases h5 : i = x0.toNat
  · subst h5
    rw [if_pos rfl, if_pos rfl]
    rw [updR_self, show stR (m.g x0.toNat) x1.toNat x2 16 = m.g x0.toNat 16 + 1 from if_pos rfl] at hk
    generalize hcn : (m.g x0.toNat 16).toNat = cn at *
    have hk2 : k < cn * 2 + 2 := by omega
    show (if k / 2 < cn then m.h x0.toNat (k / 2 * 2 + k % 2) else [x1, x2].getD (k % 2) 0) = stH (m.h x0.toNat) cn x1 x2 k
    unfold stH
    by_cases h6 : k / 2 < cn
    · rw [if_pos h6, if_neg (by omega), if_neg (by omega)]
      exact congrArg (m.h x0.toNat) (by omega)
    · rw [if_neg h6]
      by_cases h7 : k = cn * 2
      · rw [if_pos h7, show k % 2 = 0 by omega]; rfl
      · rw [if_neg h7, if_pos (by omega), show k % 2 = 1 by omega]; rfl
  · rw [if_neg h5, if_neg h5]

noncomputable def F2_store (l : List At) : Tr (List At) := .br 0 (pdec (Mem.Ok 900000 (mm l 3))) (.ok (.i ((mm l 3).stC (aI l 0) (aI l 1)) :: ((mm l 3).stM (aI l 0) (aI l 1) (aI l 2)).ats)) .no
theorem s2_store : SpecF Try.prog 17 (.eff (locF ish_store osh_store F2_store)) :=
  spec_loc (sy := y_store) (fuel := 100) (Lp := noLoops) o_S4 mixed ⟨Try.func17, by kernel_rfl, by kernel_rfl⟩ ish_store osh_store (noLoops_ok _) (hT_of e_store fun l r h => by
    obtain ⟨h1, h⟩ := guard_val h
    have := val_ok h
    subst this
    exact t_store (mm l 3) _ _ _ (of_pdec h1))

/-! ### Flush -/

theorem t_flush (m : Mem) (x0 x1 : Int) (hm : m.Ok 900000) : (T_flush x0 x1 m.off m.burns m.left m.steps m.n m.g m.h).sat fun r => AtsEq r (.i (m.stC x1 x0) :: (m.flM x0 x1).ats) := by
  obtain ⟨o1, o2, o3, o4, o5⟩ := hm
  have bad : m.bad x1 x0 = true → AtsEq [.i 1, .b m.off, .b m.burns, .i m.left, .i m.steps, .q m.n m.g 16 2 m.h] (.i (m.stC x1 x0) :: (m.flM x0 x1).ats) := fun h => by
    unfold Mem.stC Mem.flM; rw [h]; exact AtsEq.refl _
  have dead : m.bad x1 x0 = false → m.po = true → AtsEq [.i (codeI m.off m.burns m.left), .b (offB m.off m.burns m.left), .b m.burns, .i (leftI m.off m.burns m.left), .i (stepsI m.off m.burns m.left m.steps), .q m.n m.g 16 2 m.h] (.i (m.stC x1 x0) :: (m.flM x0 x1).ats) := fun h hp => by
    unfold Mem.stC Mem.flM; rw [h, hp]; exact AtsEq.refl _
  unfold T_flush flush_c0
  refine brD (fun h0 => brT rfl (Tr.sat_ok.2 (bad (by simp [Mem.bad, h0])))) fun h0 => brD (fun h1 => brT rfl (Tr.sat_ok.2 (bad (by simp [Mem.bad]; omega)))) fun h1 => brW (fun _ => brD (fun h2 => Tr.sat_ok.2 (bad (by simp [Mem.bad]; omega))) fun h2 => brD (fun h3 => Tr.sat_ok.2 (bad (by simp [Mem.bad]; omega))) fun h3 => ?_) (fun hh => by exfalso; omega)
  have hb : m.bad x1 x0 = false := by simp [Mem.bad]; omega
  refine brT (pdec_yes o1) (brT (pdec_yes (by omega)) (brNE (fun hc => Tr.sat_ok.2 (dead hb (cod_po hc))) fun hc => brW (fun _ => ?_) (fun hh => by exfalso; omega)))
  have hp := po_of_cod hc
  have ho := (o5 x1.toNat (by omega)).1
  have ho1 := ho.1
  refine Tr.sat_ok.2 ?_
  unfold Mem.stC Mem.flM
  rw [hb, hp]
  have hcod : m.cod = 0 := po_cod hp
  have hg : updG m.g x1.toNat (17 + x0.toNat * 1) ((m.g x1.toNat 16).toNat : Int) = updR m.g x1.toNat (flR (m.g x1.toNat) x0.toNat) := by
    rw [updG_row, Nat.mul_one, Int.toNat_of_nonneg ho1]
    rfl
  rw [hg]
  exact atsEq_cons (by show At.i 0 = At.i m.cod; rw [hcod]) (AtsEq.refl _)

noncomputable def F2_flush (l : List At) : Tr (List At) := .br 0 (pdec (Mem.Ok 900000 (mm l 2))) (.ok (.i ((mm l 2).stC (aI l 1) (aI l 0)) :: ((mm l 2).flM (aI l 0) (aI l 1)).ats)) .no
theorem s2_flush : SpecF Try.prog 15 (.eff (locF ish_flush osh_flush F2_flush)) :=
  spec_loc (sy := y_flush) (fuel := 100) (Lp := noLoops) o_fuse mixed ⟨Try.func15, by kernel_rfl, by kernel_rfl⟩ ish_flush osh_flush (noLoops_ok _) (hT_of e_flush fun l r h => by
    obtain ⟨h1, h⟩ := guard_val h
    have := val_ok h
    subst this
    exact t_flush (mm l 2) _ _ (of_pdec h1))

/-! ### Fence -/

theorem t_fence (m : Mem) (x0 : Int) (hm : m.Ok 900000) : (T_fence x0 m.off m.burns m.left m.steps m.n m.g m.h).sat fun r => AtsEq r (.i (m.feC x0) :: (m.feM x0).ats) := by
  obtain ⟨o1, o2, o3, o4, o5⟩ := hm
  have bad : corB x0 = true → AtsEq [.i 1, .b m.off, .b m.burns, .i m.left, .i m.steps, .q m.n m.g 16 2 m.h] (.i (m.feC x0) :: (m.feM x0).ats) := fun h => by
    unfold Mem.feC Mem.feM; rw [h]; exact AtsEq.refl _
  have dead : corB x0 = false → m.po = true → AtsEq [.i (codeI m.off m.burns m.left), .b (offB m.off m.burns m.left), .b m.burns, .i (leftI m.off m.burns m.left), .i (stepsI m.off m.burns m.left m.steps), .q m.n m.g 16 2 m.h] (.i (m.feC x0) :: (m.feM x0).ats) := fun h hp => by
    unfold Mem.feC Mem.feM; rw [h, hp]; exact AtsEq.refl _
  unfold T_fence
  refine brD (fun h0 => Tr.sat_ok.2 (bad (by simp [corB, h0]))) fun h0 => brD (fun h1 => Tr.sat_ok.2 (bad (by simp [corB]; omega))) fun h1 => ?_
  have hb : corB x0 = false := by simp [corB]; omega
  refine brT (pdec_yes o1) (brT (pdec_yes (by omega)) (brNE (fun hc => Tr.sat_ok.2 (dead hb (cod_po hc))) fun hc => ?_))
  have hp := po_of_cod hc
  refine brT (pdec_yes ⟨by omega, by omega, Int.le_refl _, by omega, rfl, o4, fun i _ hi => (o5 i hi).1⟩) (Tr.sat_ok.2 ?_)
  unfold Mem.feC Mem.feM
  rw [hb, hp]
  have hcod : m.cod = 0 := po_cod hp
  exact atsEq_cons (by show At.i 0 = At.i m.cod; rw [hcod]) (AtsEq.refl _)

noncomputable def F2_fence (l : List At) : Tr (List At) := .br 0 (pdec (Mem.Ok 900000 (mm l 1))) (.ok (.i ((mm l 1).feC (aI l 0)) :: ((mm l 1).feM (aI l 0)).ats)) .no
theorem s2_fence : SpecF Try.prog 16 (.eff (locF ish_fence osh_fence F2_fence)) :=
  spec_loc (sy := y_fence) (fuel := 100) (Lp := Lp_fence_7) o_next mixed ⟨Try.func16, by kernel_rfl, by kernel_rfl⟩ ish_fence osh_fence lk_fence_7 (hT_of e_fence fun l r h => by
    obtain ⟨h1, h⟩ := guard_val h
    have := val_ok h
    subst this
    exact t_fence (mm l 1) _ (of_pdec h1))

/-! ### Evict -/

theorem t_evict (m : Mem) (x0 x1 : Int) (hm : m.Ok 900000) : (T_evict x0 x1 m.off m.burns m.left m.steps m.n m.g m.h).sat fun r => AtsEq r (.i (m.evC x0 x1) :: (m.evM x0 x1).ats) := by
  obtain ⟨o1, o2, o3, o4, o5⟩ := hm
  have bad : m.ebad x0 x1 = true → AtsEq [.i 1, .b m.off, .b m.burns, .i m.left, .i m.steps, .q m.n m.g 16 2 m.h] (.i (m.evC x0 x1) :: (m.evM x0 x1).ats) := fun h => by
    unfold Mem.evC Mem.evM; rw [h]; exact AtsEq.refl _
  unfold T_evict evict_c1 evict_c2 evict_c0
  refine brD (fun h0 => brT rfl (Tr.sat_ok.2 (bad (by simp [Mem.ebad, h0])))) fun h0 => brD (fun h1 => brT rfl (Tr.sat_ok.2 (bad (by simp [Mem.ebad]; omega)))) fun h1 => brW (fun _ => brF rfl (brD (fun h2 => Tr.sat_ok.2 (bad (by simp [Mem.ebad]; omega))) fun h2 => ?_)) (fun hh => by exfalso; omega)
  have hb : m.ebad x0 x1 = false := by simp [Mem.ebad]; omega
  have ho := (o5 x0.toNat (by omega)).1
  have ho1 := ho.1
  rw [Int.toNat_of_nonneg ho1]
  unfold Mem.evC Mem.evM
  rw [hb]
  refine brC (fun hf => Tr.sat_ok.2 ?_) (fun hf => brT (pdec_yes ⟨ho, by split <;> omega, by split <;> omega⟩) (Tr.sat_ok.2 ?_))
  · rw [hf]
    refine atsEq_cons (AtEq.refl _) ?_
    show AtsEq _ [.b m.off, .b m.burns, .i m.left, .i m.steps, .q m.n m.g 16 2 m.h]
    rw [hf]
    exact AtsEq.refl _
  · rw [hf]
    refine atsEq_cons (AtEq.refl _) ?_
    show AtsEq _ [.b m.off, .b m.burns, .i m.left, .i m.steps, .q m.n _ 16 2 _]
    rw [hf]
    exact AtsEq.refl _

noncomputable def F2_evict (l : List At) : Tr (List At) := .br 0 (pdec (Mem.Ok 900000 (mm l 2))) (.ok (.i ((mm l 2).evC (aI l 0) (aI l 1)) :: ((mm l 2).evM (aI l 0) (aI l 1)).ats)) .no
theorem s2_evict : SpecF Try.prog 25 (.eff (locF ish_evict osh_evict F2_evict)) :=
  spec_loc (sy := y_evict) (fuel := 100) (Lp := noLoops) o_flush mixed ⟨Try.func25, by kernel_rfl, by kernel_rfl⟩ ish_evict osh_evict (noLoops_ok _) (hT_of e_evict fun l r h => by
    obtain ⟨h1, h⟩ := guard_val h
    have := val_ok h
    subst this
    exact t_evict (mm l 2) _ _ (of_pdec h1))

/-! ### Fuse -/

noncomputable def F2_fuse (l : List At) : Tr (List At) := .ok ((mm l 1).fuM (aI l 0)).ats
theorem s2_fuse : SpecF Try.prog 20 (.eff (locF ish_fusem osh_fusem F2_fuse)) :=
  spec_loc (sy := y_fusem) (fuel := 100) (Lp := noLoops) o_sure mixed ⟨Try.func20, by kernel_rfl, by kernel_rfl⟩ ish_fusem osh_fusem (noLoops_ok _) (hT_of e_fusem fun l r h => by
    have := val_ok h
    subst this
    exact Tr.sat_ok.2 (AtsEq.refl _))

/-! ### Crash -/

def KeepOk (q : Nat → Int) (kn : Nat) : Prop := ∀ j, j < kn → -9223372036854775808 ≤ q j ∧ q j ≤ 9223372036854775807

theorem t_crash (m : Mem) (n4 : Nat) (g4 : Nat → Nat → Int) (hm : m.Ok 900000) (hq : KeepOk (fun j => g4 j 0) n4) : (T_crash m.off m.burns m.left m.steps n4 g4 m.n m.g m.h).sat fun r => AtsEq r (m.crM (fun j => g4 j 0) n4).ats := by
  obtain ⟨o1, o2, o3, o4, o5⟩ := hm
  have e : (fun j => g4 (0 + j) 0) = fun j => g4 j 0 := by funext j; rw [Nat.zero_add]
  unfold T_crash
  rw [e]
  exact brT (pdec_yes ⟨Int.le_refl _, by omega, rfl, o4, fun i _ hi => (o5 i hi).1, hq⟩) (Tr.sat_ok.2 (AtsEq.refl _))

noncomputable def F2_crash (l : List At) : Tr (List At) := .br 0 (pdec (Mem.Ok 900000 (mmC l))) (.br 0 (pdec (KeepOk (fun j => aRg l 4 j 0) (aRn l 4))) (.ok ((mmC l).crM (fun j => aRg l 4 j 0) (aRn l 4)).ats) .no) .no
theorem s2_crash : SpecF Try.prog 18 (.eff (locF ish_crash osh_crash F2_crash)) :=
  spec_loc (sy := y_crash) (fuel := 100) (Lp := Lp_crash_3) o_next mixed ⟨Try.func18, by kernel_rfl, by kernel_rfl⟩ ish_crash osh_crash lk_crash_3 (hT_of e_crash fun l r h => by
    obtain ⟨h1, h⟩ := guard_val h
    obtain ⟨h2, h⟩ := guard_val h
    have := val_ok h
    subst this
    exact t_crash (mmC l) _ _ (of_pdec h1) (of_pdec h2))

/-! ### Load, Sure, New -/

noncomputable def F2_load (l : List At) : Tr (List At) := .ok [.i ((mm l 1).ldW (aI l 0) 0), .i ((mm l 1).ldW (aI l 0) 1), .i ((mm l 1).ldW (aI l 0) 2), .i ((mm l 1).ldW (aI l 0) 3), .i ((mm l 1).ldW (aI l 0) 4), .i ((mm l 1).ldW (aI l 0) 5), .i ((mm l 1).ldW (aI l 0) 6), .i ((mm l 1).ldW (aI l 0) 7), .i ((mm l 1).ldC (aI l 0))]

theorem t_load (m : Mem) (x0 : Int) : (T_load x0 m.off m.burns m.left m.steps m.n m.g m.h).sat fun r => AtsEq r [.i (m.ldW x0 0), .i (m.ldW x0 1), .i (m.ldW x0 2), .i (m.ldW x0 3), .i (m.ldW x0 4), .i (m.ldW x0 5), .i (m.ldW x0 6), .i (m.ldW x0 7), .i (m.ldC x0)] := by
  unfold T_load load_c0 Mem.ldW
  have bad : m.ldC x0 = 1 → AtsEq [.i 0, .i 0, .i 0, .i 0, .i 0, .i 0, .i 0, .i 0, .i 1] [.i (bif m.ldC x0 == 0 then m.g x0.toNat 0 else 0), .i (bif m.ldC x0 == 0 then m.g x0.toNat 1 else 0), .i (bif m.ldC x0 == 0 then m.g x0.toNat 2 else 0), .i (bif m.ldC x0 == 0 then m.g x0.toNat 3 else 0), .i (bif m.ldC x0 == 0 then m.g x0.toNat 4 else 0), .i (bif m.ldC x0 == 0 then m.g x0.toNat 5 else 0), .i (bif m.ldC x0 == 0 then m.g x0.toNat 6 else 0), .i (bif m.ldC x0 == 0 then m.g x0.toNat 7 else 0), .i (m.ldC x0)] := fun h => by rw [h]; exact AtsEq.refl _
  refine brD (fun h0 => Tr.sat_ok.2 (bad (by simp [Mem.ldC, h0]))) fun h0 => brD (fun h1 => Tr.sat_ok.2 (bad (by unfold Mem.ldC; rw [show (decide (x0 < 0) || decide (x0 ≥ (m.n : Int))) = true by simp; omega]; rfl))) fun h1 => brW (fun _ => ?_) (fun hh => by exfalso; omega)
  have e : m.ldC x0 = bif m.off then 4 else 0 := by unfold Mem.ldC; rw [show (decide (x0 < 0) || decide (x0 ≥ (m.n : Int))) = false by simp; omega]; rfl
  rw [e]
  refine brC (fun hf => Tr.sat_ok.2 ?_) (fun hf => Tr.sat_ok.2 ?_)
  · rw [hf]; exact AtsEq.refl _
  · rw [hf]; exact AtsEq.refl _

theorem s2_load : SpecF Try.prog 19 (.read (locR ish_load osh_load F2_load)) :=
  spec_read (sy := y_load) (fuel := 100) (Lp := noLoops) o_store mixed ⟨Try.func19, by kernel_rfl, by kernel_rfl⟩ ish_load osh_load (by kernel_rfl) (noLoops_ok _) (hT_of e_load fun l r h => by
    have := val_ok h
    subst this
    exact t_load (mm l 1) _)

noncomputable def F2_sure (l : List At) : Tr (List At) := .br 0 (pdec (Mem.Ok 900000 (mm l 0))) (.ok [.r (mm l 0).n (suG (mm l 0).n (mm l 0).g)]) .no
theorem s2_sure : SpecF Try.prog 23 (.eff (locF ish_sure osh_sure F2_sure)) :=
  spec_loc (sy := y_sure) (fuel := 100) (Lp := Lp_sure_3) o_next mixed ⟨Try.func23, by kernel_rfl, by kernel_rfl⟩ ish_sure osh_sure lk_sure_3 (hT_of e_sure fun l r h => by
    obtain ⟨h1, h⟩ := guard_val h
    have := val_ok h
    subst this
    have ho := (of_pdec h1).2.2.2.1
    refine brT (pdec_yes ⟨Int.le_refl _, by omega, rfl, rfl, ho⟩) (Tr.sat_ok.2 (atsEq_cons ?_ atsEq_nil))
    refine ⟨rfl, fun i hi c => ?_⟩
    show (if i < 0 then (0 : Int) else if c < 8 then aRg l 4 (0 + (i - 0)) (8 + c) else 0) = if i < aRn l 4 ∧ c < 8 then aRg l 4 i (8 + c) else 0
    rw [if_neg (by omega), Nat.zero_add, Nat.sub_zero]
    by_cases h8 : c < 8
    · rw [if_pos h8, if_pos ⟨hi, h8⟩]
    · rw [if_neg h8, if_neg (fun hh => h8 hh.2)])

noncomputable def F2_new (l : List At) : Tr (Nat × List At) := .br 0 (decide (aI l 0 < 64 ∨ aI l 0 > 1024)) (.ok (1, [.i 1])) (.ok (0, .i 0 :: (newM (aI l 0).toNat).ats))

theorem s2_new : SpecF Try.prog 13 (.eff (locFs ish_new oshs_new F2_new)) :=
  spec_locs (sy := y_new) (fuel := 100) (Lp := noLoops) o_evict mixed ⟨Try.func13, by kernel_rfl, by kernel_rfl⟩ ish_new oshs_new (noLoops_ok _) (hT_ofS e_new fun l r h => by
    refine ⟨r, ?_, rfl, AtsEq.refl _⟩
    unfold F2_new at h
    rw [← h]
    unfold TL_new T_new
    generalize aI l 0 = x0
    by_cases h1 : x0 < 64
    · rw [show decide (x0 < 64) = true by simpa using h1, show decide (x0 < 64 ∨ x0 > 1024) = true by simp [h1]]; rfl
    · by_cases h2 : x0 > 1024
      · rw [show decide (x0 < 64) = false by simpa using h1, show decide (x0 > 1024) = true by simpa using h2, show decide (x0 < 64 ∨ x0 > 1024) = true by simp [h2]]; rfl
      · rw [show decide (x0 < 64) = false by simpa using h1, show decide (x0 > 1024) = false by simpa using h2, show decide (x0 < 64 ∨ x0 > 1024) = false by simp [h1, h2], show (decide (0 ≤ x0) && x0 == x0 && decide (x0 ≤ 1073741824)) = true by simp; omega]; rfl)

noncomputable def Γ_R1 : Specs := upd (upd (upd (upd (upd (upd (upd (upd (upd Γ_next 13 (.eff (locFs ish_new oshs_new F2_new))) 17 (.eff (locF ish_store osh_store F2_store))) 15 (.eff (locF ish_flush osh_flush F2_flush))) 16 (.eff (locF ish_fence osh_fence F2_fence)))
  25 (.eff (locF ish_evict osh_evict F2_evict))) 20 (.eff (locF ish_fusem osh_fusem F2_fuse))) 18 (.eff (locF ish_crash osh_crash F2_crash))) 19 (.read (locR ish_load osh_load F2_load))) 23 (.eff (locF ish_sure osh_sure F2_sure))
theorem o_R1 : SpecOK Try.prog Γ_R1 := SpecOK.upd (SpecOK.upd (SpecOK.upd (SpecOK.upd (SpecOK.upd (SpecOK.upd (SpecOK.upd (SpecOK.upd (SpecOK.upd o_next s2_new) s2_store) s2_flush) s2_fence) s2_evict) s2_fuse) s2_crash) s2_load) s2_sure
end Go.Proofs.Ythgagehgiooklaa.G
end

/-
  What functions of the seat compute, printed by a program from the explorer.
-/
section
namespace Go.Proofs.Ythgagehgiooklaa.G
open Go Go.AM Go.Proofs
/-! ### shown -/

noncomputable def ish_shown : FSh := ⟨[], []⟩
noncomputable def osh_shown : FSh := ⟨[.v false [.k .b]], []⟩
noncomputable def T_shown  : Tr (List At) :=
 .br 0 (Bool.false)
 (.ok [(.b (Bool.false))])
 (.br 0 (Go.Proofs.Ythgagehgiooklaa.G.pdec (Go.Proofs.Ythgagehgiooklaa.G.Mem.Ok (900000 : Int) (Go.Proofs.Ythgagehgiooklaa.G.newM (64 : Nat))))
 (.br 0 (Go.Proofs.Ythgagehgiooklaa.G.pdec (Go.Proofs.Ythgagehgiooklaa.G.Mem.Ok (900000 : Int) (Go.Proofs.Ythgagehgiooklaa.G.Mem.stM (Go.Proofs.Ythgagehgiooklaa.G.newM (64 : Nat)) (3 : Int) (0 : Int) (7 : Int))))
 (.br 0 (Go.Proofs.Ythgagehgiooklaa.G.pdec (Go.Proofs.Ythgagehgiooklaa.G.Mem.Ok (900000 : Int) (Go.Proofs.Ythgagehgiooklaa.G.Mem.flM (Go.Proofs.Ythgagehgiooklaa.G.Mem.stM (Go.Proofs.Ythgagehgiooklaa.G.newM (64 : Nat)) (3 : Int) (0 : Int) (7 : Int)) (0 : Int) (3 : Int))))
 (.br 0 (Go.Proofs.Ythgagehgiooklaa.G.pdec (Go.Proofs.Ythgagehgiooklaa.G.Mem.Ok (900000 : Int) (Go.Proofs.Ythgagehgiooklaa.G.Mem.feM (Go.Proofs.Ythgagehgiooklaa.G.Mem.flM (Go.Proofs.Ythgagehgiooklaa.G.Mem.stM (Go.Proofs.Ythgagehgiooklaa.G.newM (64 : Nat)) (3 : Int) (0 : Int) (7 : Int)) (0 : Int) (3 : Int)) (0 : Int))))
 (.br 0 (Go.Proofs.Ythgagehgiooklaa.G.pdec (Go.Proofs.Ythgagehgiooklaa.G.Mem.Ok (900000 : Int) (Go.Proofs.Ythgagehgiooklaa.G.Mem.stM (Go.Proofs.Ythgagehgiooklaa.G.Mem.feM (Go.Proofs.Ythgagehgiooklaa.G.Mem.flM (Go.Proofs.Ythgagehgiooklaa.G.Mem.stM (Go.Proofs.Ythgagehgiooklaa.G.newM (64 : Nat)) (3 : Int) (0 : Int) (7 : Int)) (0 : Int) (3 : Int)) (0 : Int)) (3 : Int) (1 : Int) (8 : Int))))
 (.br 0 (Go.Proofs.Ythgagehgiooklaa.G.pdec (Go.Proofs.Ythgagehgiooklaa.G.KeepOk (fun (_ : Nat) => (0 : Int)) (0 : Nat)))
 (.br 0 (Go.Proofs.Ythgagehgiooklaa.G.pdec (Go.Proofs.Ythgagehgiooklaa.G.Mem.Ok (900000 : Int) (Go.Proofs.Ythgagehgiooklaa.G.Mem.crM (Go.Proofs.Ythgagehgiooklaa.G.Mem.stM (Go.Proofs.Ythgagehgiooklaa.G.Mem.feM (Go.Proofs.Ythgagehgiooklaa.G.Mem.flM (Go.Proofs.Ythgagehgiooklaa.G.Mem.stM (Go.Proofs.Ythgagehgiooklaa.G.newM (64 : Nat)) (3 : Int) (0 : Int) (7 : Int)) (0 : Int) (3 : Int)) (0 : Int)) (3 : Int) (1 : Int) (8 : Int)) (fun (_ : Nat) => (0 : Int)) (0 : Nat))))
 (.br 0 (Go.Proofs.Ythgagehgiooklaa.G.pdec (Go.Proofs.Ythgagehgiooklaa.G.Mem.Ok (900000 : Int) (Go.Proofs.Ythgagehgiooklaa.G.Mem.stM (Go.Proofs.Ythgagehgiooklaa.G.Mem.crM (Go.Proofs.Ythgagehgiooklaa.G.Mem.stM (Go.Proofs.Ythgagehgiooklaa.G.Mem.feM (Go.Proofs.Ythgagehgiooklaa.G.Mem.flM (Go.Proofs.Ythgagehgiooklaa.G.Mem.stM (Go.Proofs.Ythgagehgiooklaa.G.newM (64 : Nat)) (3 : Int) (0 : Int) (7 : Int)) (0 : Int) (3 : Int)) (0 : Int)) (3 : Int) (1 : Int) (8 : Int)) (fun (_ : Nat) => (0 : Int)) (0 : Nat)) (3 : Int) (1 : Int) (8 : Int))))
 (.br 0 (Go.Proofs.Ythgagehgiooklaa.G.pdec (Go.Proofs.Ythgagehgiooklaa.G.Mem.Ok (900000 : Int) (Go.Proofs.Ythgagehgiooklaa.G.Mem.stM (Go.Proofs.Ythgagehgiooklaa.G.Mem.stM (Go.Proofs.Ythgagehgiooklaa.G.Mem.crM (Go.Proofs.Ythgagehgiooklaa.G.Mem.stM (Go.Proofs.Ythgagehgiooklaa.G.Mem.feM (Go.Proofs.Ythgagehgiooklaa.G.Mem.flM (Go.Proofs.Ythgagehgiooklaa.G.Mem.stM (Go.Proofs.Ythgagehgiooklaa.G.newM (64 : Nat)) (3 : Int) (0 : Int) (7 : Int)) (0 : Int) (3 : Int)) (0 : Int)) (3 : Int) (1 : Int) (8 : Int)) (fun (_ : Nat) => (0 : Int)) (0 : Nat)) (3 : Int) (1 : Int) (8 : Int)) (3 : Int) (2 : Int) (9 : Int))))
 (.br 0 (Go.Proofs.Ythgagehgiooklaa.G.pdec (Go.Proofs.Ythgagehgiooklaa.G.KeepOk (fun (j : Nat) => Go.AM.rowsF [[(1 : Int)]] j (0 : Nat)) (1 : Nat)))
 (.br 0 (Go.Proofs.Ythgagehgiooklaa.G.pdec (Go.Proofs.Ythgagehgiooklaa.G.Mem.Ok (900000 : Int) (Go.Proofs.Ythgagehgiooklaa.G.Mem.fuM (Go.Proofs.Ythgagehgiooklaa.G.Mem.crM (Go.Proofs.Ythgagehgiooklaa.G.Mem.stM (Go.Proofs.Ythgagehgiooklaa.G.Mem.stM (Go.Proofs.Ythgagehgiooklaa.G.Mem.crM (Go.Proofs.Ythgagehgiooklaa.G.Mem.stM (Go.Proofs.Ythgagehgiooklaa.G.Mem.feM (Go.Proofs.Ythgagehgiooklaa.G.Mem.flM (Go.Proofs.Ythgagehgiooklaa.G.Mem.stM (Go.Proofs.Ythgagehgiooklaa.G.newM (64 : Nat)) (3 : Int) (0 : Int) (7 : Int)) (0 : Int) (3 : Int)) (0 : Int)) (3 : Int) (1 : Int) (8 : Int)) (fun (_ : Nat) => (0 : Int)) (0 : Nat)) (3 : Int) (1 : Int) (8 : Int)) (3 : Int) (2 : Int) (9 : Int)) (fun (j : Nat) => Go.AM.rowsF [[(1 : Int)]] j (0 : Nat)) (1 : Nat)) (0 : Int))))
 (.ok [(.b (Bool.true))])
 (.no))
 (.no))
 (.no))
 (.no))
 (.no))
 (.no))
 (.no))
 (.no))
 (.no))
 (.no))
 (.no))
noncomputable def y_shown : Nat → Option Nat := (syOf3 [] [] [])
noncomputable def TL_shown (l : List At) : Tr (List At) := T_shown 
theorem e_shown (l : List At) : (call Try.prog Γ_R1 y_shown noLoops 100 Try.f12 (mkV ish_shown l) (mkH ish_shown l)).bind (leafO 0 osh_shown) = TL_shown l := by kernel_rfl
noncomputable def F_shown : List At → Tr (List At) := TL_shown
theorem s_shown : SpecF Try.prog 12 (.eff (locF ish_shown osh_shown F_shown)) :=
  spec_loc (sy := y_shown) (fuel := 100) (Lp := noLoops) o_R1 mixed ⟨Try.func12, by kernel_rfl, by kernel_rfl⟩ ish_shown osh_shown (noLoops_ok _) (hT_ways e_shown)
noncomputable def Γ_shown : Specs := upd Γ_R1 12 (.eff (locF ish_shown osh_shown F_shown))
theorem o_shown : SpecOK Try.prog Γ_shown := SpecOK.upd o_R1 s_shown

end Go.Proofs.Ythgagehgiooklaa.G
end

/-
  The document's examples hold.
-/
section
namespace Go.Proofs.Ythgagehgiooklaa.G
open Go Go.AM Go.Proofs

theorem keepOk_nil {q : Nat → Int} : KeepOk q 0 := fun _ hj => absurd hj (Nat.not_lt_zero _)

noncomputable def F2_shown (_l : List At) : Tr (List At) := .ok [.b true]
theorem s2_shown : SpecF Try.prog 12 (.eff (locF ish_shown osh_shown F2_shown)) :=
  spec_loc (sy := y_shown) (fuel := 100) (Lp := noLoops) o_R1 mixed ⟨Try.func12, by kernel_rfl, by kernel_rfl⟩ ish_shown osh_shown (noLoops_ok _) (hT_of e_shown fun l r h => by
    have := val_ok h
    subst this
    have h0 : (newM 64).Ok 0 := newM_ok (by decide)
    have h1 := stM_ok (i := 3) (w := 0) (v := 7) h0 (by decide)
    have h2 := flM_ok (c := 0) (i := 3) h1
    have h3 := feM_ok (c := 0) h2
    have h4 := stM_ok (i := 3) (w := 1) (v := 8) h3 (by decide)
    have h5 := crM_ok (q := fun _ => 0) (kn := 0) h4
    have h6 := stM_ok (i := 3) (w := 1) (v := 8) h5 (by decide)
    have h7 := stM_ok (i := 3) (w := 2) (v := 9) h6 (by decide)
    have h8 := crM_ok (q := fun j => rowsF [[1]] j 0) (kn := 1) h7
    have h9 := fuM_ok (x := 0) h8 (by decide)
    have k : KeepOk (fun j => rowsF [[1]] j 0) 1 := fun j _ => ⟨by show -9223372036854775808 ≤ (1 : Int); decide, by show (1 : Int) ≤ 9223372036854775807; decide⟩
    unfold TL_shown T_shown
    exact brF rfl (brT (pdec_yes (h0.mono (by decide))) (brT (pdec_yes (h1.mono (by decide))) (brT (pdec_yes (h2.mono (by decide))) (brT (pdec_yes (h3.mono (by decide))) (brT (pdec_yes (h4.mono (by decide))) (brT (pdec_yes keepOk_nil) (brT (pdec_yes (h5.mono (by decide))) (brT (pdec_yes (h6.mono (by decide))) (brT (pdec_yes (h7.mono (by decide))) (brT (pdec_yes k) (brT (pdec_yes (h9.mono (by decide))) (Tr.sat_ok.2 (AtsEq.refl _))))))))))))))
noncomputable def Γ_S13 : Specs := upd Γ_R1 12 (.eff (locF ish_shown osh_shown F2_shown))
theorem o_S13 : SpecOK Try.prog Γ_S13 := SpecOK.upd o_R1 s2_shown
end Go.Proofs.Ythgagehgiooklaa.G
end

/-
  What functions of the seat compute, printed by a program from the explorer.
-/
section
namespace Go.Proofs.Ythgagehgiooklaa.G
open Go Go.AM Go.Proofs
/-! ### ris -/

noncomputable def ish_ris : FSh := ⟨[.v false [.p 0 0], .v false [.k (.n .i64)]], [.roc [.sw 1 8, .sw 2 1, .k .b, .k (.n .i64), .k (.n .i64)], .rows [.n .u64, .n .u64, .n .u64, .n .u64, .n .u64, .n .u64, .n .u64, .n .u64] false, .nrows [.n .i64] 0 [.n .i64, .n .u64, .b, .b, .b, .b, .b, .b, .b, .b] 3 false false, .no]⟩
noncomputable def osh_ris : FSh := ⟨[.v false [.k .b]], [.no, .no, .no, .no]⟩
noncomputable def T_ris (x0 : Int) (x1 : Bool) (x2 : Int) (x3 : Int) (n4 : Nat) (g4 : Nat → Nat → Int) (n5 : Nat) (g5 : Nat → Nat → Int) (h5 : Nat → Nat → Int) : Tr (List At) :=
 .br 7 (Decidable.decide (x0 ≥ (0 : Int)))
 (.ok [(.b (Decidable.decide (x0 < (↑n4 : Int))))])
 (.ok [(.b (Bool.false))])
noncomputable def y_ris : Nat → Option Nat := (syOf3 [7] [] [])
noncomputable def TL_ris (l : List At) : Tr (List At) := T_ris (aI l 0) (aB l 1) (aI l 2) (aI l 3) (aRn l 4) (aRg l 4) (aRn l 5) (aRg l 5) (aMh l 5 0 10)
theorem e_ris (l : List At) : (call Try.prog Γ_S13 y_ris noLoops 100 Try.f45 (mkV ish_ris l) (mkH ish_ris l)).bind (leafO 4 osh_ris) = TL_ris l := by kernel_rfl
noncomputable def F_ris : List At → Tr (List At) := TL_ris
theorem s_ris : SpecF Try.prog 45 (.read (locR ish_ris osh_ris F_ris)) :=
  spec_read (sy := y_ris) (fuel := 100) (Lp := noLoops) o_S13 mixed ⟨Try.func45, by kernel_rfl, by kernel_rfl⟩ ish_ris osh_ris (by kernel_rfl) (noLoops_ok _) (hT_ways e_ris)
noncomputable def Γ_ris : Specs := upd Γ_S13 45 (.read (locR ish_ris osh_ris F_ris))
theorem o_ris : SpecOK Try.prog Γ_ris := SpecOK.upd o_S13 s_ris

/-! ### rstep -/

noncomputable def ish_rstep : FSh := ⟨[.v false [.p 0 0]], [.cells [.opq 1, .opq 2, .k .b, .k (.n .i64), .k (.n .i64)], .no, .no]⟩
noncomputable def osh_rstep : FSh := ⟨[.v false [.k (.n .i64)]], [.cells [.opq 1, .opq 2, .k .b, .k (.n .i64), .k (.n .i64)], .no, .no]⟩
noncomputable def T_rstep (x0 : Bool) (x1 : Int) (x2 : Int) : Tr (List At) :=
 .br 7 (x0)
 (.ok [(.i ((4 : Int))), (.b (Bool.true)), (.i (x1)), (.i (x2))])
 (.br 13 (x1 == (0 : Int))
 (.ok [(.i ((4 : Int))), (.b (Bool.true)), (.i (x1)), (.i (x2))])
 (.br 21 (Decidable.decide (x1 > (0 : Int)))
 (.ok [(.i ((0 : Int))), (.b (x0)), (.i (Go.IntKind.wrap Go.IntKind.i64 (x1 - (1 : Int)))), (.i (Go.IntKind.wrap Go.IntKind.i64 (x2 + (1 : Int))))])
 (.ok [(.i ((0 : Int))), (.b (x0)), (.i (x1)), (.i (Go.IntKind.wrap Go.IntKind.i64 (x2 + (1 : Int))))])))
noncomputable def y_rstep : Nat → Option Nat := (syOf3 [7, 13, 21] [] [])
noncomputable def TL_rstep (l : List At) : Tr (List At) := T_rstep (aB l 0) (aI l 1) (aI l 2)
theorem e_rstep (l : List At) : (call Try.prog Γ_ris y_rstep noLoops 100 Try.f46 (mkV ish_rstep l) (mkH ish_rstep l)).bind (leafO 3 osh_rstep) = TL_rstep l := by kernel_rfl
noncomputable def F_rstep : List At → Tr (List At) := TL_rstep
theorem s_rstep : SpecF Try.prog 46 (.eff (locF ish_rstep osh_rstep F_rstep)) :=
  spec_loc (sy := y_rstep) (fuel := 100) (Lp := noLoops) o_ris mixed ⟨Try.func46, by kernel_rfl, by kernel_rfl⟩ ish_rstep osh_rstep (noLoops_ok _) (hT_ways e_rstep)
noncomputable def Γ_rstep : Specs := upd Γ_ris 46 (.eff (locF ish_rstep osh_rstep F_rstep))
theorem o_rstep : SpecOK Try.prog Γ_rstep := SpecOK.upd o_ris s_rstep

end Go.Proofs.Ythgagehgiooklaa.G
end

/-
  What functions of the seat compute, printed by a program from the explorer.
-/
section
namespace Go.Proofs.Ythgagehgiooklaa.G
open Go Go.AM Go.Proofs
/-! ### the loop at 3 of rhas -/

noncomputable def lsh_rhas_3 : FSh := ⟨[.v false [.p 0 0], .v false [.k (.n .i64)], .v false [.k (.n .i64)], .any, .any, .any, .v false [.p 4 0], .v false [.p 5 0], .v false [.k (.n .i64)], .any, .any, .any, .any, .any, .any, .any, .any, .any, .any, .any, .any, .any, .any, .any, .any, .any, .any, .any, .any, .any, .any, .any, .any, .any, .any, .any, .any, .any, .any, .any, .any, .any, .any, .any, .any], [.roc [.sw 1 8, .sw 2 1, .k .b, .k (.n .i64), .k (.n .i64)], .rows [.n .u64, .n .u64, .n .u64, .n .u64, .n .u64, .n .u64, .n .u64, .n .u64] false, .nrows [.n .i64] 0 [.n .i64, .n .u64, .b, .b, .b, .b, .b, .b, .b, .b] 3 false false, .no, .cells [.k (.n .u64), .k (.n .u64), .k (.n .u64), .k (.n .u64), .k (.n .u64), .k (.n .u64), .k (.n .u64), .k (.n .u64)], .cells [.k (.n .u64), .k (.n .u64), .k (.n .u64), .k (.n .u64), .k (.n .u64), .k (.n .u64), .k (.n .u64), .k (.n .u64)]]⟩
noncomputable def xsh_rhas_3_0 : FSh := ⟨[.any, .any, .any, .any, .any, .any, .v false [.p 4 0], .v false [.p 5 0], .any, .any, .any, .any, .any, .any, .any, .any, .any, .any, .any, .any, .any, .any, .any, .any, .any, .any, .any, .any, .any, .any, .any, .any, .any, .any, .any, .any, .any, .any, .any, .any, .any, .any, .any, .any, .any], [.no, .no, .no, .no, .cells [.k (.n .u64), .k (.n .u64), .k (.n .u64), .k (.n .u64), .k (.n .u64), .k (.n .u64), .k (.n .u64), .k (.n .u64)], .cells [.k (.n .u64), .k (.n .u64), .k (.n .u64), .k (.n .u64), .k (.n .u64), .k (.n .u64), .k (.n .u64), .k (.n .u64)]]⟩
noncomputable def xs_rhas_3 : Exs := fun e => match e with
  | .normal => some lsh_rhas_3
  | .exit n => (match Nat.beq n 0 with | true => some xsh_rhas_3_0 | false => none)
  | .ret => none
noncomputable def B_rhas_3 (x0 : Int) (x1 : Int) (x2 : Int) (x3 : Bool) (x4 : Int) (x5 : Int) (n6 : Nat) (g6 : Nat → Nat → Int) (n7 : Nat) (g7 : Nat → Nat → Int) (h7 : Nat → Nat → Int) (x8 : Int) (x9 : Int) (x10 : Int) (x11 : Int) (x12 : Int) (x13 : Int) (x14 : Int) (x15 : Int) (x16 : Int) (x17 : Int) (x18 : Int) (x19 : Int) (x20 : Int) (x21 : Int) (x22 : Int) (x23 : Int) : Tr (Ex × List At) :=
 .br 18 (Decidable.decide (x2 < x1))
 (.br 26 (Go.AM.within x0 n7)
 (.br 29 (Go.AM.within x2 (Int.toNat (g7 (Int.toNat x0) (0 : Nat))))
 (.br 37 (Go.AM.within x0 n7)
 (.br 40 (Go.AM.within x2 (Int.toNat (g7 (Int.toNat x0) (0 : Nat))))
 (.br 200043 (Go.AM.within (h7 (Int.toNat x0) (Int.toNat x2 * (10 : Nat) + (0 : Nat))) (8 : Nat))
 (.ok (.normal, [(.i (x0)), (.i (x1)), (.i (Go.IntKind.wrap Go.IntKind.i64 (x2 + (1 : Int)))), (.b (x3)), (.i (x4)), (.i (x5)), (.r (n6) (g6)), (.q (n7) (g7) ((0 : Nat)) ((10 : Nat)) (h7)), (.i (x8)), (.i (x9)), (.i (x10)), (.i (x11)), (.i (x12)), (.i (x13)), (.i (x14)), (.i (x15)), (.i (bif Nat.beq (Int.toNat (h7 (Int.toNat x0) (Int.toNat x2 * (10 : Nat) + (0 : Nat)))) (0 : Nat) then h7 (Int.toNat x0) (Int.toNat x2 * (10 : Nat) + (1 : Nat)) else x16)), (.i (bif Nat.beq (Int.toNat (h7 (Int.toNat x0) (Int.toNat x2 * (10 : Nat) + (0 : Nat)))) (1 : Nat) then h7 (Int.toNat x0) (Int.toNat x2 * (10 : Nat) + (1 : Nat)) else x17)), (.i (bif Nat.beq (Int.toNat (h7 (Int.toNat x0) (Int.toNat x2 * (10 : Nat) + (0 : Nat)))) (2 : Nat) then h7 (Int.toNat x0) (Int.toNat x2 * (10 : Nat) + (1 : Nat)) else x18)), (.i (bif Nat.beq (Int.toNat (h7 (Int.toNat x0) (Int.toNat x2 * (10 : Nat) + (0 : Nat)))) (3 : Nat) then h7 (Int.toNat x0) (Int.toNat x2 * (10 : Nat) + (1 : Nat)) else x19)), (.i (bif Nat.beq (Int.toNat (h7 (Int.toNat x0) (Int.toNat x2 * (10 : Nat) + (0 : Nat)))) (4 : Nat) then h7 (Int.toNat x0) (Int.toNat x2 * (10 : Nat) + (1 : Nat)) else x20)), (.i (bif Nat.beq (Int.toNat (h7 (Int.toNat x0) (Int.toNat x2 * (10 : Nat) + (0 : Nat)))) (5 : Nat) then h7 (Int.toNat x0) (Int.toNat x2 * (10 : Nat) + (1 : Nat)) else x21)), (.i (bif Nat.beq (Int.toNat (h7 (Int.toNat x0) (Int.toNat x2 * (10 : Nat) + (0 : Nat)))) (6 : Nat) then h7 (Int.toNat x0) (Int.toNat x2 * (10 : Nat) + (1 : Nat)) else x22)), (.i (bif Nat.beq (Int.toNat (h7 (Int.toNat x0) (Int.toNat x2 * (10 : Nat) + (0 : Nat)))) (7 : Nat) then h7 (Int.toNat x0) (Int.toNat x2 * (10 : Nat) + (1 : Nat)) else x23))]))
 (.no))
 (.no))
 (.no))
 (.no))
 (.no))
 (.ok (.exit 0, [(.i (x8)), (.i (x9)), (.i (x10)), (.i (x11)), (.i (x12)), (.i (x13)), (.i (x14)), (.i (x15)), (.i (x16)), (.i (x17)), (.i (x18)), (.i (x19)), (.i (x20)), (.i (x21)), (.i (x22)), (.i (x23))]))
noncomputable def y_rhas_3 : Nat → Option Nat := (syOf3 [18, 26, 29, 37, 40] [] [43])
noncomputable def BL_rhas_3 (l : List At) : Tr (Ex × List At) := B_rhas_3 (aI l 0) (aI l 1) (aI l 2) (aB l 3) (aI l 4) (aI l 5) (aRn l 6) (aRg l 6) (aRn l 7) (aRg l 7) (aMh l 7 0 10) (aI l 8) (aI l 9) (aI l 10) (aI l 11) (aI l 12) (aI l 13) (aI l 14) (aI l 15) (aI l 16) (aI l 17) (aI l 18) (aI l 19) (aI l 20) (aI l 21) (aI l 22) (aI l 23)
theorem eB_rhas_3 (l : List At) : (exec Try.prog Γ_rstep y_rhas_3 noLoops 100 (loopAt Try.f48 3) ⟨mkV lsh_rhas_3 l, mkH lsh_rhas_3 l⟩).bind (leafL 4 xs_rhas_3) = BL_rhas_3 l := by kernel_rfl
/- by hand: O_rhas_3 (x0 : Int) (x1 : Int) (x2 : Int) (x3 : Bool) (x4 : Int) (x5 : Int) (n6 : Nat) (g6 : Nat → Nat → Int) (n7 : Nat) (g7 : Nat → Nat → Int) (h7 : Nat → Nat → Int) (x8 : Int) (x9 : Int) (x10 : Int) (x11 : Int) (x12 : Int) (x13 : Int) (x14 : Int) (x15 : Int) (x16 : Int) (x17 : Int) (x18 : Int) (x19 : Int) (x20 : Int) (x21 : Int) (x22 : Int) (x23 : Int) : Tr (Ex × List At); OL_rhas_3 (l) := O_rhas_3 (aI l 0) (aI l 1) (aI l 2) (aB l 3) (aI l 4) (aI l 5) (aRn l 6) (aRg l 6) (aRn l 7) (aRg l 7) (aMh l 7 0 10) (aI l 8) (aI l 9) (aI l 10) (aI l 11) (aI l 12) (aI l 13) (aI l 14) (aI l 15) (aI l 16) (aI l 17) (aI l 18) (aI l 19) (aI l 20) (aI l 21) (aI l 22) (aI l 23); μ_rhas_3 : List At → Nat; rd_rhas_3 : ∀ l r, (OL_rhas_3 l).val = some r → RoundA BL_rhas_3 OL_rhas_3 μ_rhas_3 l r -/

end Go.Proofs.Ythgagehgiooklaa.G
end

/-
  The reference's memory, in plain words.
-/
section
namespace Go.Proofs.Ythgagehgiooklaa.G
open Go Go.AM Go.Proofs

def rw8 (a b c d e f g h : Int) : Nat → Int
  | 0 => a | 1 => b | 2 => c | 3 => d | 4 => e | 5 => f | 6 => g | 7 => h | _ => 0
def ra8 (w : Nat → Int) : List At := [.i (w 0), .i (w 1), .i (w 2), .i (w 3), .i (w 4), .i (w 5), .i (w 6), .i (w 7)]
def rsetW (w : Nat → Int) (t : Nat) (v : Int) : Nat → Int := fun c => if c = t then v else w c

theorem rw8_set {a b c d e f g h v : Int} {t : Nat} (ht : t < 8) : rw8 (bif Nat.beq t 0 then v else a) (bif Nat.beq t 1 then v else b) (bif Nat.beq t 2 then v else c) (bif Nat.beq t 3 then v else d) (bif Nat.beq t 4 then v else e) (bif Nat.beq t 5 then v else f) (bif Nat.beq t 6 then v else g) (bif Nat.beq t 7 then v else h) = rsetW (rw8 a b c d e f g h) t v := by
  funext k
  unfold rsetW
  match t, ht with
  | 0, _ | 1, _ | 2, _ | 3, _ | 4, _ | 5, _ | 6, _ | 7, _ =>
    match k with
    | 0 | 1 | 2 | 3 | 4 | 5 | 6 | 7 => rfl
    | n + 8 => rw [if_neg (by omega)]; rfl

/-- The stores of a line: words and values, without the cores. -/
def pk (hr : Nat → Int) : Nat → Int := fun k => hr (k / 2 * 10 + k % 2)
theorem pk0 (hr : Nat → Int) (j : Nat) : pk hr (j * 2) = hr (j * 10) := by
  unfold pk
  rw [show j * 2 / 2 = j by omega, show j * 2 % 2 = 0 by omega, Nat.add_zero]
theorem pk1 (hr : Nat → Int) (j : Nat) : pk hr (j * 2 + 1) = hr (j * 10 + 1) := by
  unfold pk
  rw [show (j * 2 + 1) / 2 = j by omega, show (j * 2 + 1) % 2 = 1 by omega]

/-- Sure lines ('S'), how many stores each has ('G'), and which ('L': word, value, eight cores). -/
structure RMem where
  n : Nat
  S : Nat → Nat → Int
  k : Nat
  G : Nat → Nat → Int
  L : Nat → Nat → Int
  off : Bool
  left : Int
  count : Int

def mmr (l : List At) (i : Nat) : RMem := ⟨aRn l (i + 3), aRg l (i + 3), aRn l (i + 4), aRg l (i + 4), aMh l (i + 4) 0 10, aB l i, aI l (i + 1), aI l (i + 2)⟩
def RMem.ats (y : RMem) : List At := [.b y.off, .i y.left, .i y.count, .r y.n y.S, .q y.k y.G 0 10 y.L]

def RRowOk (c : Int) (hr : Nat → Int) : Prop := 0 ≤ c ∧ c ≤ 1000000 ∧ ∀ j : Nat, (j : Int) < c → 0 ≤ hr (j * 10) ∧ hr (j * 10) < 8
def RMem.Ok (K : Int) (y : RMem) : Prop := (-1 ≤ y.left ∧ y.left ≤ 9223372036854775807) ∧ (0 ≤ y.count ∧ y.count ≤ K) ∧ (y.k = y.n ∧ y.n ≤ 1073741824) ∧ ∀ i, i < y.n → RRowOk (y.G i 0) (y.L i) ∧ y.G i 0 ≤ y.count
theorem RMem.Ok.mono {K K' : Int} {y : RMem} (h : y.Ok K) (hk : K ≤ K') : y.Ok K' := ⟨h.1, ⟨h.2.1.1, by have := h.2.1.2; omega⟩, h.2.2⟩

/-! ### what each call makes of it -/

def rpoB (o : Bool) (l : Int) : Bool := o || l == 0
def rcodI (o : Bool) (l : Int) : Int := bif rpoB o l then 4 else 0
def rleftI (o : Bool) (l : Int) : Int := bif rpoB o l then l else bif decide (l > 0) then l - 1 else l
def rcntI (o : Bool) (l c : Int) : Int := bif rpoB o l then c else c + 1
def RMem.po (y : RMem) : Bool := rpoB y.off y.left
def RMem.cod (y : RMem) : Int := rcodI y.off y.left
def RMem.stp (y : RMem) : RMem := ⟨y.n, y.S, y.k, y.G, y.L, rpoB y.off y.left, rleftI y.off y.left, rcntI y.off y.left y.count⟩
def RMem.wit (y : RMem) (S G L : Nat → Nat → Int) : RMem := ⟨y.n, S, y.k, G, L, y.off, y.left, y.count⟩
def RMem.is (y : RMem) (i : Int) : Bool := decide (0 ≤ i) && decide (i < (y.n : Int))
def RMem.bad (y : RMem) (i x : Int) : Bool := !y.is i || decide (x < 0) || decide (x > 7)

/-- One store more. -/
def rstR (hr : Nat → Int) (c : Nat) (w v : Int) : Nat → Int := fun k => if k / 10 < c then hr k else if k % 10 = 0 then w else if k % 10 = 1 then v else 0
def RMem.stC (y : RMem) (i w : Int) : Int := bif y.bad i w then 1 else y.cod
def RMem.stM (y : RMem) (i w v : Int) : RMem := bif y.bad i w then y else bif y.po then y.stp else
  y.stp.wit y.S (updG y.G i.toNat 0 (y.G i.toNat 0 + 1)) (updR y.L i.toNat (rstR (y.L i.toNat) (y.G i.toNat 0).toNat w v))

/-- All its stores are flushed by a core. -/
def rflR (hr : Nat → Int) (c core : Nat) : Nat → Int := fun k => if k / 10 < c ∧ k % 10 = 2 + core then 1 else hr k
def corR (c : Int) : Bool := decide (c < 0) || decide (c > 7)
def RMem.flC (y : RMem) (c i : Int) : Int := bif (corR c || !y.is i) then 1 else y.cod
def RMem.flM (y : RMem) (c i : Int) : RMem := bif (corR c || !y.is i) then y else bif y.po then y.stp else
  y.stp.wit y.S y.G (updR y.L i.toNat (rflR (y.L i.toNat) (y.G i.toNat 0).toNat c.toNat))

/-- A line whose first 'm' stores became sure. -/
def rsS (s hr : Nat → Int) (m : Nat) : Nat → Int := fun c => if c < 8 then apF s (pk hr) 0 m c else s c
def rsL (hr : Nat → Int) (m : Nat) : Nat → Int := fun k => hr (k + 10 * m)

/-- How many of the first 'm' stores a core's fence makes sure. -/
def lastF (hr : Nat → Int) (core : Nat) : Nat → Nat
  | 0 => 0
  | m + 1 => if hr (m * 10 + (2 + core)) ≠ 0 then m + 1 else lastF hr core m
end Go.Proofs.Ythgagehgiooklaa.G
end

/-
  The loop of the reference's has.
-/
section
namespace Go.Proofs.Ythgagehgiooklaa.G
open Go Go.AM Go.Proofs

def preH (x0 x1 x2 : Int) (n : Nat) (g h : Nat → Nat → Int) : Prop :=
  0 ≤ x2 ∧ x2 ≤ x1 ∧ (0 ≤ x0 ∧ x0 < n) ∧ x1 ≤ g x0.toNat 0 ∧ x1 ≤ 1000000 ∧ ∀ j : Nat, (j : Int) < x1 → 0 ≤ h x0.toNat (j * 10) ∧ h x0.toNat (j * 10) < 8

noncomputable def O_rhas_3 (x0 x1 x2 : Int) (n7 : Nat) (g7 h7 : Nat → Nat → Int) (x8 x9 x10 x11 x12 x13 x14 x15 : Int) (w : Nat → Int) : Tr (Ex × List At) :=
  .br 0 (pdec (preH x0 x1 x2 n7 g7 h7)) (.ok (.exit 0, .i x8 :: .i x9 :: .i x10 :: .i x11 :: .i x12 :: .i x13 :: .i x14 :: .i x15 :: ra8 (apF w (pk (h7 x0.toNat)) x2.toNat (x1 - x2).toNat))) .no
noncomputable def OL_rhas_3 (l : List At) : Tr (Ex × List At) := O_rhas_3 (aI l 0) (aI l 1) (aI l 2) (aRn l 7) (aRg l 7) (aMh l 7 0 10) (aI l 8) (aI l 9) (aI l 10) (aI l 11) (aI l 12) (aI l 13) (aI l 14) (aI l 15) (rw8 (aI l 16) (aI l 17) (aI l 18) (aI l 19) (aI l 20) (aI l 21) (aI l 22) (aI l 23))
def μ_rhas_3 (l : List At) : Nat := (aI l 1 - aI l 2).toNat

theorem rd_rhas_3 : ∀ l r, (OL_rhas_3 l).val = some r → RoundS BL_rhas_3 OL_rhas_3 μ_rhas_3 l r := by
  intro l r hh
  unfold OL_rhas_3 at hh
  obtain ⟨hc, h⟩ := guard_val hh
  clear hh
  obtain ⟨c0, c1, ⟨c2, c3⟩, c4, c5, c6⟩ := of_pdec hc
  unfold RoundS BL_rhas_3 B_rhas_3
  generalize hx0 : aI l 0 = x0 at *
  generalize hx1 : aI l 1 = x1 at *
  generalize hx2 : aI l 2 = x2 at *
  generalize hn : aRn l 7 = n at *
  generalize hg : aRg l 7 = g at *
  generalize hhm : aMh l 7 0 10 = hm at *
  refine brD (fun h1 => ?_) (fun h1 => ?_)
  · obtain ⟨i, rfl⟩ := Int.eq_ofNat_of_zero_le c0
    obtain ⟨w0, w1⟩ := c6 i h1
    have hw : IntKind.i64.wrap ((i : Int) + 1) = (i : Int) + 1 := wrap_i64 (by omega) (by omega)
    have hμ : (x1 - ((i : Int) + 1)).toNat < μ_rhas_3 l := by unfold μ_rhas_3; rw [hx1, hx2]; omega
    refine brW (fun _ => brW (fun _ => brW (fun _ => brW (fun _ => brT (by simp [within]; omega) ?_) (fun hh => by exfalso; omega)) (fun hh => by exfalso; omega)) (fun hh => by exfalso; omega)) (fun hh => by exfalso; omega)
    have hq : preH x0 x1 ((i : Int) + 1) n g hm := ⟨by omega, by omega, ⟨c2, c3⟩, c4, c5, c6⟩
    have e1 : (x1 - (i : Int)).toNat = (x1 - ((i : Int) + 1)).toNat + 1 := by omega
    rw [hw, Int.toNat_natCast, Nat.add_zero]
    rw [Int.toNat_natCast, e1, apF, pk0, pk1] at h
    have k := rw8_set (a := aI l 16) (b := aI l 17) (c := aI l 18) (d := aI l 19) (e := aI l 20) (f := aI l 21) (g := aI l 22) (h := aI l 23) (v := hm x0.toNat (i * 10 + 1)) (t := (hm x0.toNat (i * 10)).toNat) (by omega)
    unfold rsetW at k
    rw [← k] at h
    exact on_ _ r (AtsEq.refl _) hμ ((br_t (g := 0) (pdec_yes hq)).trans h) rfl (AtsEq.refl _)
  · have e : (x1 - x2).toNat = 0 := by omega
    rw [e, apF] at h
    have hr := val_ok h
    subst hr
    exact out_ (by simp) rfl (AtsEq.refl _)
end Go.Proofs.Ythgagehgiooklaa.G
end

/-
  What functions of the seat compute, printed by a program from the explorer.
-/
section
namespace Go.Proofs.Ythgagehgiooklaa.G
open Go Go.AM Go.Proofs
theorem f_rhas_3 : LoopF Try.prog 4 (loopAt Try.f48 3) (loopFn 4 lsh_rhas_3 xs_rhas_3 OL_rhas_3) :=
  loop_sat (sy := y_rhas_3) (fuel := 100) (Lp := noLoops) o_rstep mixed (loopsOK_at (noLoops_ok _) 3) rfl eB_rhas_3 rd_rhas_3
noncomputable def Lp_rhas_3 : Loops := Loops.set noLoops 3 (loopFn 4 lsh_rhas_3 xs_rhas_3 OL_rhas_3)
theorem lk_rhas_3 : LoopsFn Try.prog 4 Lp_rhas_3 Try.f48 := loopsFn_set (noLoops_ok _) (by kernel_rfl) f_rhas_3

/-! ### rhas -/

noncomputable def ish_rhas : FSh := ⟨[.v false [.p 0 0], .v false [.k (.n .i64)], .v false [.k (.n .i64)]], [.roc [.sw 1 8, .sw 2 1, .k .b, .k (.n .i64), .k (.n .i64)], .rows [.n .u64, .n .u64, .n .u64, .n .u64, .n .u64, .n .u64, .n .u64, .n .u64] false, .nrows [.n .i64] 0 [.n .i64, .n .u64, .b, .b, .b, .b, .b, .b, .b, .b] 3 false false, .no]⟩
noncomputable def osh_rhas : FSh := ⟨[.v true [.k (.n .u64), .k (.n .u64), .k (.n .u64), .k (.n .u64), .k (.n .u64), .k (.n .u64), .k (.n .u64), .k (.n .u64)]], [.no, .no, .no, .no]⟩
noncomputable def T_rhas (x0 : Int) (x1 : Int) (x2 : Bool) (x3 : Int) (x4 : Int) (n5 : Nat) (g5 : Nat → Nat → Int) (n6 : Nat) (g6 : Nat → Nat → Int) (h6 : Nat → Nat → Int) : Tr (List At) :=
 .br 14 (Go.AM.within x0 n5)
 (.br 0 (Go.Proofs.Ythgagehgiooklaa.G.pdec (Go.Proofs.Ythgagehgiooklaa.G.preH x0 x1 (0 : Int) n6 g6 h6))
 (.ok [(.i (Go.Proofs.Ythgagehgiooklaa.G.apF (Go.Proofs.Ythgagehgiooklaa.G.rw8 (g5 (Int.toNat x0) (0 : Nat)) (g5 (Int.toNat x0) (1 : Nat)) (g5 (Int.toNat x0) (2 : Nat)) (g5 (Int.toNat x0) (3 : Nat)) (g5 (Int.toNat x0) (4 : Nat)) (g5 (Int.toNat x0) (5 : Nat)) (g5 (Int.toNat x0) (6 : Nat)) (g5 (Int.toNat x0) (7 : Nat))) (Go.Proofs.Ythgagehgiooklaa.G.pk (h6 (Int.toNat x0))) (0 : Nat) (Int.toNat (x1 - (0 : Int))) (0 : Nat))), (.i (Go.Proofs.Ythgagehgiooklaa.G.apF (Go.Proofs.Ythgagehgiooklaa.G.rw8 (g5 (Int.toNat x0) (0 : Nat)) (g5 (Int.toNat x0) (1 : Nat)) (g5 (Int.toNat x0) (2 : Nat)) (g5 (Int.toNat x0) (3 : Nat)) (g5 (Int.toNat x0) (4 : Nat)) (g5 (Int.toNat x0) (5 : Nat)) (g5 (Int.toNat x0) (6 : Nat)) (g5 (Int.toNat x0) (7 : Nat))) (Go.Proofs.Ythgagehgiooklaa.G.pk (h6 (Int.toNat x0))) (0 : Nat) (Int.toNat (x1 - (0 : Int))) (1 : Nat))), (.i (Go.Proofs.Ythgagehgiooklaa.G.apF (Go.Proofs.Ythgagehgiooklaa.G.rw8 (g5 (Int.toNat x0) (0 : Nat)) (g5 (Int.toNat x0) (1 : Nat)) (g5 (Int.toNat x0) (2 : Nat)) (g5 (Int.toNat x0) (3 : Nat)) (g5 (Int.toNat x0) (4 : Nat)) (g5 (Int.toNat x0) (5 : Nat)) (g5 (Int.toNat x0) (6 : Nat)) (g5 (Int.toNat x0) (7 : Nat))) (Go.Proofs.Ythgagehgiooklaa.G.pk (h6 (Int.toNat x0))) (0 : Nat) (Int.toNat (x1 - (0 : Int))) (2 : Nat))), (.i (Go.Proofs.Ythgagehgiooklaa.G.apF (Go.Proofs.Ythgagehgiooklaa.G.rw8 (g5 (Int.toNat x0) (0 : Nat)) (g5 (Int.toNat x0) (1 : Nat)) (g5 (Int.toNat x0) (2 : Nat)) (g5 (Int.toNat x0) (3 : Nat)) (g5 (Int.toNat x0) (4 : Nat)) (g5 (Int.toNat x0) (5 : Nat)) (g5 (Int.toNat x0) (6 : Nat)) (g5 (Int.toNat x0) (7 : Nat))) (Go.Proofs.Ythgagehgiooklaa.G.pk (h6 (Int.toNat x0))) (0 : Nat) (Int.toNat (x1 - (0 : Int))) (3 : Nat))), (.i (Go.Proofs.Ythgagehgiooklaa.G.apF (Go.Proofs.Ythgagehgiooklaa.G.rw8 (g5 (Int.toNat x0) (0 : Nat)) (g5 (Int.toNat x0) (1 : Nat)) (g5 (Int.toNat x0) (2 : Nat)) (g5 (Int.toNat x0) (3 : Nat)) (g5 (Int.toNat x0) (4 : Nat)) (g5 (Int.toNat x0) (5 : Nat)) (g5 (Int.toNat x0) (6 : Nat)) (g5 (Int.toNat x0) (7 : Nat))) (Go.Proofs.Ythgagehgiooklaa.G.pk (h6 (Int.toNat x0))) (0 : Nat) (Int.toNat (x1 - (0 : Int))) (4 : Nat))), (.i (Go.Proofs.Ythgagehgiooklaa.G.apF (Go.Proofs.Ythgagehgiooklaa.G.rw8 (g5 (Int.toNat x0) (0 : Nat)) (g5 (Int.toNat x0) (1 : Nat)) (g5 (Int.toNat x0) (2 : Nat)) (g5 (Int.toNat x0) (3 : Nat)) (g5 (Int.toNat x0) (4 : Nat)) (g5 (Int.toNat x0) (5 : Nat)) (g5 (Int.toNat x0) (6 : Nat)) (g5 (Int.toNat x0) (7 : Nat))) (Go.Proofs.Ythgagehgiooklaa.G.pk (h6 (Int.toNat x0))) (0 : Nat) (Int.toNat (x1 - (0 : Int))) (5 : Nat))), (.i (Go.Proofs.Ythgagehgiooklaa.G.apF (Go.Proofs.Ythgagehgiooklaa.G.rw8 (g5 (Int.toNat x0) (0 : Nat)) (g5 (Int.toNat x0) (1 : Nat)) (g5 (Int.toNat x0) (2 : Nat)) (g5 (Int.toNat x0) (3 : Nat)) (g5 (Int.toNat x0) (4 : Nat)) (g5 (Int.toNat x0) (5 : Nat)) (g5 (Int.toNat x0) (6 : Nat)) (g5 (Int.toNat x0) (7 : Nat))) (Go.Proofs.Ythgagehgiooklaa.G.pk (h6 (Int.toNat x0))) (0 : Nat) (Int.toNat (x1 - (0 : Int))) (6 : Nat))), (.i (Go.Proofs.Ythgagehgiooklaa.G.apF (Go.Proofs.Ythgagehgiooklaa.G.rw8 (g5 (Int.toNat x0) (0 : Nat)) (g5 (Int.toNat x0) (1 : Nat)) (g5 (Int.toNat x0) (2 : Nat)) (g5 (Int.toNat x0) (3 : Nat)) (g5 (Int.toNat x0) (4 : Nat)) (g5 (Int.toNat x0) (5 : Nat)) (g5 (Int.toNat x0) (6 : Nat)) (g5 (Int.toNat x0) (7 : Nat))) (Go.Proofs.Ythgagehgiooklaa.G.pk (h6 (Int.toNat x0))) (0 : Nat) (Int.toNat (x1 - (0 : Int))) (7 : Nat)))])
 (.no))
 (.no)
noncomputable def y_rhas : Nat → Option Nat := (syOf3 [14] [] [])
noncomputable def TL_rhas (l : List At) : Tr (List At) := T_rhas (aI l 0) (aI l 1) (aB l 2) (aI l 3) (aI l 4) (aRn l 5) (aRg l 5) (aRn l 6) (aRg l 6) (aMh l 6 0 10)
theorem e_rhas (l : List At) : (call Try.prog Γ_rstep y_rhas Lp_rhas_3 100 Try.f48 (mkV ish_rhas l) (mkH ish_rhas l)).bind (leafO 4 osh_rhas) = TL_rhas l := by kernel_rfl
noncomputable def F_rhas : List At → Tr (List At) := TL_rhas
theorem s_rhas : SpecF Try.prog 48 (.read (locR ish_rhas osh_rhas F_rhas)) :=
  spec_read (sy := y_rhas) (fuel := 100) (Lp := Lp_rhas_3) o_rstep mixed ⟨Try.func48, by kernel_rfl, by kernel_rfl⟩ ish_rhas osh_rhas (by kernel_rfl) lk_rhas_3 (hT_ways e_rhas)
noncomputable def Γ_rhas : Specs := upd Γ_rstep 48 (.read (locR ish_rhas osh_rhas F_rhas))
theorem o_rhas : SpecOK Try.prog Γ_rhas := SpecOK.upd o_rstep s_rhas

end Go.Proofs.Ythgagehgiooklaa.G
end

/-
  What a memory's calls make of each line, in plain words.
-/
section
namespace Go.Proofs.Ythgagehgiooklaa.G
open Go Go.AM Go.Proofs

/-! ### which of so many kinds -/

theorem kind_in {x n : Int} (h1 : -9223372036854775808 ≤ x) (h2 : x ≤ 9223372036854775807) (hn : 0 < n) (hn2 : n ≤ 9223372036854775807) : ok_kind x n = true ∧ 0 ≤ r_kind_0 x n ∧ r_kind_0 x n < n := by
  have key : ∀ v : Int, 0 ≤ v → 0 ≤ Int.tmod v n ∧ Int.tmod v n < n := fun v hv => by
    rw [Int.tmod_eq_emod_of_nonneg hv]
    exact ⟨Int.emod_nonneg _ (by omega), Int.emod_lt_of_pos _ hn⟩
  have hne : (n != 0) = true := by simp; omega
  by_cases hx : x < 0
  · have e1 : IntKind.i64.wrap (x + 1) = x + 1 := wrap_i64 (by omega) (by omega)
    have e2 : IntKind.i64.wrap (0 - (x + 1)) = 0 - (x + 1) := wrap_i64 (by omega) (by omega)
    have hd : decide (x < 0) = true := decide_eq_true hx
    unfold ok_kind r_kind_0
    simp only [hd, e1, e2, hne, cond_true]
    exact ⟨by simp, key _ (by omega)⟩
  · have hd : decide (x < 0) = false := decide_eq_false hx
    unfold ok_kind r_kind_0
    simp only [hd, hne, cond_false, cond_true]
    exact ⟨by simp, key _ (by omega)⟩

/-! ### a memory that is on and does not burn -/

def Mem.on (m : Mem) : Prop := m.off = false ∧ m.burns = false
theorem newM_on (n : Nat) : (newM n).on := ⟨rfl, rfl⟩

theorem on_po {m : Mem} (h : m.on) : m.po = false := by unfold Mem.po offB; rw [h.1, h.2]; rfl
theorem on_stp {m : Mem} (h : m.on) : m.stp.on := ⟨on_po h, h.2⟩
theorem on_cod {m : Mem} (h : m.on) : m.cod = 0 := po_cod (on_po h)
theorem bad_of {m : Mem} {i x : Int} (h : 0 ≤ i ∧ i < m.n ∧ 0 ≤ x ∧ x < 8) : m.bad i x = false := by unfold Mem.bad; simp; omega
theorem corB_of {c : Int} (h : 0 ≤ c ∧ c < 8) : corB c = false := by unfold corB; simp; omega
theorem ebad_of {m : Mem} {i x : Int} (h : 0 ≤ i ∧ i < m.n ∧ 0 ≤ x) : m.ebad i x = false := by unfold Mem.ebad; simp; omega

theorem stM_on {m : Mem} {i w v : Int} (h : m.on) (hb : m.bad i w = false) : m.stM i w v = m.stp.wit (updR m.g i.toNat (stR (m.g i.toNat) w.toNat v)) (updR m.h i.toNat (stH (m.h i.toNat) (m.g i.toNat 16).toNat w v)) := by
  unfold Mem.stM; rw [hb, on_po h]; rfl
theorem flM_on {m : Mem} {c i : Int} (h : m.on) (hb : m.bad i c = false) : m.flM c i = m.stp.wit (updR m.g i.toNat (flR (m.g i.toNat) c.toNat)) m.h := by
  unfold Mem.flM; rw [hb, on_po h]; rfl
theorem feM_on {m : Mem} {c : Int} (h : m.on) (hb : corB c = false) : m.feM c = m.stp.wit (feG m.n m.g m.h (17 + c.toNat) 0) (feH m.n m.g m.h (17 + c.toNat) 0) := by
  unfold Mem.feM; rw [hb, on_po h]; rfl
theorem evM_on {m : Mem} {i x : Int} (h : m.on) (hb : m.ebad i x = false) : m.evM i x = m.wit (updR m.g i.toNat (rowS (m.g i.toNat) (m.h i.toNat) (evK (m.g i.toNat) x))) (updR m.h i.toNat (hS (m.h i.toNat) (evK (m.g i.toNat) x))) := by
  unfold Mem.evM; rw [hb, h.1]; rfl
theorem stC_on {m : Mem} {i w : Int} (h : m.on) (hb : m.bad i w = false) : m.stC i w = 0 := by unfold Mem.stC; rw [hb]; exact on_cod h

theorem stM_on' {m : Mem} {i w v : Int} (h : m.on) : (m.stM i w v).on := by
  unfold Mem.stM
  cases m.bad i w with
  | true => exact h
  | false => rw [on_po h]; exact on_stp h
theorem flM_on' {m : Mem} {c i : Int} (h : m.on) : (m.flM c i).on := by
  unfold Mem.flM
  cases m.bad i c with
  | true => exact h
  | false => rw [on_po h]; exact on_stp h
theorem feM_on' {m : Mem} {c : Int} (h : m.on) : (m.feM c).on := by
  unfold Mem.feM
  cases corB c with
  | true => exact h
  | false => rw [on_po h]; exact on_stp h
theorem evM_on' {m : Mem} {i x : Int} (h : m.on) : (m.evM i x).on := by
  unfold Mem.evM
  cases m.ebad i x with
  | true => exact h
  | false => rw [h.1]; exact h
theorem crM_on {m : Mem} {q : Nat → Int} {kn : Nat} : (m.crM q kn).on := ⟨rfl, rfl⟩

theorem stM_n {m : Mem} {i w v : Int} : (m.stM i w v).n = m.n := by unfold Mem.stM; cases m.bad i w <;> cases m.po <;> rfl
theorem flM_n {m : Mem} {c i : Int} : (m.flM c i).n = m.n := by unfold Mem.flM; cases m.bad i c <;> cases m.po <;> rfl
theorem feM_n {m : Mem} {c : Int} : (m.feM c).n = m.n := by unfold Mem.feM; cases corB c <;> cases m.po <;> rfl
theorem evM_n {m : Mem} {i x : Int} : (m.evM i x).n = m.n := by unfold Mem.evM; cases m.ebad i x <;> cases m.off <;> rfl

theorem ldW_on {m : Mem} {i : Int} {c : Nat} (h : m.on) (hi : 0 ≤ i ∧ i < m.n) : m.ldW i c = m.g i.toNat c := by
  have e : m.ldC i = 0 := by unfold Mem.ldC; rw [show (decide (i < 0) || decide (i ≥ (m.n : Int))) = false by simp; omega, h.1]; rfl
  unfold Mem.ldW; rw [e]; rfl
theorem ldC_on {m : Mem} {i : Int} (h : m.on) (hi : 0 ≤ i ∧ i < m.n) : m.ldC i = 0 := by
  unfold Mem.ldC; rw [show (decide (i < 0) || decide (i ≥ (m.n : Int))) = false by simp; omega, h.1]; rfl

/-! ### what is now is what is sure, with the stores -/

theorem apF_pt {c : Nat} : ∀ (m a : Nat) (s s' hr hr' : Nat → Int), s c = s' c → (∀ k, a ≤ k → k < a + m → hr (k * 2) = hr' (k * 2) ∧ hr (k * 2 + 1) = hr' (k * 2 + 1)) → apF s hr a m c = apF s' hr' a m c
  | 0, _, _, _, _, _, hs, _ => hs
  | m + 1, a, s, s', hr, hr', hs, h => by
    obtain ⟨h1, h2⟩ := h a (Nat.le_refl _) (by omega)
    rw [apF, apF]
    refine apF_pt m (a + 1) _ _ hr hr' ?_ fun k h3 h4 => h k (by omega) (by omega)
    show (if c = (hr (a * 2)).toNat then hr (a * 2 + 1) else s c) = if c = (hr' (a * 2)).toNat then hr' (a * 2 + 1) else s' c
    rw [h1, h2, hs]

def Coh (r hr : Nat → Int) : Prop := ∀ c, c < 8 → r c = apF (sur r) hr 0 (r 16).toNat c

theorem coh_st {r hr : Nat → Int} {w v : Int} (h : Coh r hr) (h1 : 0 ≤ r 16) (hw : 0 ≤ w ∧ w < 8) : Coh (stR r w.toNat v) (stH hr (r 16).toNat w v) := by
  intro c hc
  have e : stR r w.toNat v 16 = r 16 + 1 := if_pos rfl
  rw [e, show (r 16 + 1).toNat = (r 16).toNat + 1 by omega, apF_succ, Nat.zero_add]
  generalize hn : (r 16).toNat = n
  have a1 : stH hr n w v (n * 2) = w := if_pos rfl
  have a2 : stH hr n w v (n * 2 + 1) = v := by unfold stH; rw [if_neg (by omega), if_pos rfl]
  show stR r w.toNat v c = if c = (stH hr n w v (n * 2)).toNat then stH hr n w v (n * 2 + 1) else apF (sur (stR r w.toNat v)) (stH hr n w v) 0 n c
  rw [a1, a2]
  unfold stR
  rw [if_neg (by omega)]
  by_cases hcw : c = w.toNat
  · rw [if_pos hcw, if_pos hcw]
  · rw [if_neg hcw, if_neg hcw, h c hc, hn]
    refine apF_pt n 0 _ _ _ _ ?_ fun k _ hk => ?_
    · show r (8 + c) = if 8 + c = 16 then r 16 + 1 else if 8 + c = w.toNat then v else r (8 + c)
      rw [if_neg (by omega), if_neg (by omega)]
    · unfold stH
      rw [if_neg (by omega), if_neg (by omega), if_neg (by omega), if_neg (by omega)]
      exact ⟨rfl, rfl⟩

theorem flR_lo {r : Nat → Int} {k c : Nat} (hc : c < 17) : flR r k c = r c := if_neg (by omega)

theorem coh_fl {r hr : Nat → Int} {k : Nat} (h : Coh r hr) : Coh (flR r k) hr := by
  intro c hc
  rw [flR_lo (by omega), flR_lo (by omega), h c hc]
  refine apF_pt _ _ _ _ _ _ ?_ fun _ _ _ => ⟨rfl, rfl⟩
  show r (8 + c) = flR r k (8 + c)
  exact (flR_lo (by omega)).symm

theorem rowS_now {r hr : Nat → Int} {n c : Nat} (hc : c < 8) : rowS r hr n c = r c := by
  unfold rowS
  rw [if_neg (by omega), if_neg (by omega), putS_out _ _ (by omega)]
theorem rowS_sur {r hr : Nat → Int} {n c : Nat} (hc : c < 8) : sur (rowS r hr n) c = apF (sur r) hr 0 n c := by
  unfold sur rowS putS
  rw [if_neg (by omega), if_neg (by omega), if_pos (by omega), show 8 + c - 8 = c by omega]
  rfl

theorem coh_rowS {r hr : Nat → Int} {n : Nat} (h : Coh r hr) (hn : (n : Int) ≤ r 16) : Coh (rowS r hr n) (hS hr n) := by
  intro c hc
  rw [rowS_now hc, rowS16, h c hc]
  generalize hk : (r 16 - n).toNat = k
  rw [show (r 16).toNat = n + k by omega, apF_add]
  rw [apF_pt (s := sur (rowS r hr n)) (s' := apF (sur r) hr 0 n) (hr := hS hr n) (hr' := hS hr n) k 0 (rowS_sur hc) (fun _ _ _ => ⟨rfl, rfl⟩)]
  show _ = apF (apF (sur r) hr 0 n) (fun k => hr (k + 2 * n)) 0 k c
  rw [apF_shift]

theorem crR_16 {r hr : Nat → Int} {k : Nat} : crR r hr k 16 = 0 := rfl
theorem crR_now {r hr : Nat → Int} {k c : Nat} (hc : c < 8) : crR r hr k c = apF (sur r) hr 0 k c := if_pos hc
theorem crR_sur {r hr : Nat → Int} {k c : Nat} (hc : c < 8) : sur (crR r hr k) c = apF (sur r) hr 0 k c := by
  unfold sur crR
  rw [if_neg (by omega), if_pos (by omega), show 8 + c - 8 = c by omega]
  rfl
theorem coh_crR {r hr : Nat → Int} {k : Nat} : Coh (crR r hr k) hr := fun c hc => by
  rw [crR_16, crR_now hc]; exact (crR_sur hc).symm

/-- All lines are so. -/
def Mem.Coh (m : Mem) : Prop := ∀ i, i < m.n → G.Coh (m.g i) (m.h i)

/-! ### NvmCores -/

theorem cores_law {x y v : Int} (hx : 0 ≤ x ∧ x < 8) (hy : 0 ≤ y ∧ y < 8) (c : Nat) (hc : c < 8) :
    ((((((newM 64).stM 1 0 v).flM x 1).feM y).crM (fun _ => 0) 0).ldW 1 c) = if x = y ∧ c = 0 then v else 0 := by
  have o0 := newM_on 64
  have b1 : (newM 64).bad 1 0 = false := bad_of ⟨by decide, by show (1 : Int) < (64 : Nat); decide, by decide, by decide⟩
  have o1 : ((newM 64).stM 1 0 v).on := stM_on' o0
  have e1 := stM_on (v := v) o0 b1
  have b2 : ((newM 64).stM 1 0 v).bad 1 x = false := bad_of ⟨by decide, by rw [stM_n]; show (1 : Int) < (64 : Nat); decide, hx⟩
  have e2 := flM_on o1 b2
  have o2 : (((newM 64).stM 1 0 v).flM x 1).on := flM_on' o1
  have e3 := feM_on o2 (corB_of hy)
  rw [ldW_on crM_on ⟨by decide, by show (1 : Int) < ((((newM 64).stM 1 0 v).flM x 1).feM y).n; rw [feM_n, flM_n, stM_n]; show (1 : Int) < (64 : Nat); decide⟩]
  -- the line behind the flush
  generalize hm2 : ((newM 64).stM 1 0 v).flM x 1 = m2 at *
  have r2 : m2.g 1 = flR (stR (fun _ => 0) 0 v) x.toNat := by rw [e2, e1]; rfl
  have n2 : m2.n = 64 := by rw [e2, e1]; rfl
  have h16 : m2.g 1 16 = 1 := by rw [r2, flR_lo (by omega)]; rfl
  have hfl : m2.g 1 (17 + y.toNat) = if x = y then 1 else 0 := by
    rw [r2]
    unfold flR
    by_cases hxy : x = y
    · rw [if_pos (by omega), if_pos hxy]; rfl
    · rw [if_neg (by omega), if_neg hxy]
      unfold stR
      rw [if_neg (by omega), if_neg (by omega)]
  have hlo : ∀ k, k < 16 → m2.g 1 k = if k = 0 then v else 0 := fun k hk => by
    rw [r2, flR_lo (by omega)]
    unfold stR
    rw [if_neg (by omega)]
  show crG (m2.feM y).n (m2.feM y).g (m2.feM y).h (fun _ => 0) 0 0 1 c = _
  rw [e3]
  show crG m2.n (feG m2.n m2.g m2.h (17 + y.toNat) 0) (feH m2.n m2.g m2.h (17 + y.toNat) 0) (fun _ => 0) 0 0 1 c = _
  by_cases hxy : x = y
  · have r3 : feG m2.n m2.g m2.h (17 + y.toNat) 0 1 = rowS (m2.g 1) (m2.h 1) 1 := by
      unfold feG
      rw [hfl, if_pos hxy, if_pos ⟨Nat.zero_le _, by omega, by decide⟩]
      rfl
    unfold crG
    rw [r3, if_neg (by rw [rowS16, h16]; rintro ⟨_, _, h⟩; exact absurd h (by decide)), rowS_now hc, hlo c (by omega)]
    by_cases hc0 : c = 0
    · rw [if_pos hc0, if_pos ⟨hxy, hc0⟩]
    · rw [if_neg hc0, if_neg (fun hh => hc0 hh.2)]
  · have r3 : feG m2.n m2.g m2.h (17 + y.toNat) 0 1 = m2.g 1 := by
      unfold feG
      rw [hfl, if_neg hxy, if_neg (by rintro ⟨_, _, h⟩; exact absurd h (by decide))]
    unfold crG
    rw [r3, if_pos ⟨Nat.zero_le _, by omega, by rw [h16]; decide⟩, crR_now hc, if_neg (fun hh => hxy hh.1), h16]
    show m2.g 1 (8 + c) = 0
    rw [hlo _ (by omega), if_neg (by omega)]
end Go.Proofs.Ythgagehgiooklaa.G
end

/-
  The reference's step, is and has, in plain words.
-/
section
namespace Go.Proofs.Ythgagehgiooklaa.G
open Go Go.AM Go.Proofs

def stepOk (l c : Int) : Prop := (-1 ≤ l ∧ l ≤ 9223372036854775807) ∧ 0 ≤ c ∧ c ≤ 1000000
noncomputable def F2_rstep (l : List At) : Tr (List At) := .br 0 (pdec (stepOk (aI l 1) (aI l 2))) (.ok [.i (rcodI (aB l 0) (aI l 1)), .b (rpoB (aB l 0) (aI l 1)), .i (rleftI (aB l 0) (aI l 1)), .i (rcntI (aB l 0) (aI l 1) (aI l 2))]) .no
theorem t_rstep (o : Bool) (x c : Int) (h : stepOk x c) : (T_rstep o x c).sat fun r => AtsEq r [.i (rcodI o x), .b (rpoB o x), .i (rleftI o x), .i (rcntI o x c)] := by
  obtain ⟨⟨h1, h2⟩, h3, h4⟩ := h
  have w1 : IntKind.i64.wrap (c + 1) = c + 1 := wrap_i64 (by omega) (by omega)
  unfold T_rstep rcodI rleftI rcntI rpoB
  cases o with
  | true => exact brT rfl (Tr.sat_ok.2 (AtsEq.refl _))
  | false =>
    refine brF rfl (brC (fun hz => Tr.sat_ok.2 ?_) (fun hz => ?_))
    · rw [hz]; exact AtsEq.refl _
    · rw [hz, w1]
      refine brD (fun hp => Tr.sat_ok.2 ?_) (fun hp => Tr.sat_ok.2 ?_)
      · rw [wrap_i64 (x := x - 1) (by omega) (by omega), decide_eq_true hp]; exact AtsEq.refl _
      · rw [decide_eq_false hp]; exact AtsEq.refl _
theorem s2_rstep : SpecF Try.prog 46 (.eff (locF ish_rstep osh_rstep F2_rstep)) :=
  spec_loc (sy := y_rstep) (fuel := 100) (Lp := noLoops) o_ris mixed ⟨Try.func46, by kernel_rfl, by kernel_rfl⟩ ish_rstep osh_rstep (noLoops_ok _) (hT_of e_rstep fun l r h => by
    obtain ⟨h1, h⟩ := guard_val h
    have := val_ok h
    subst this
    exact t_rstep _ _ _ (of_pdec h1))

noncomputable def F2_ris (l : List At) : Tr (List At) := .ok [.b (RMem.is (mmr l 1) (aI l 0))]
theorem s2_ris : SpecF Try.prog 45 (.read (locR ish_ris osh_ris F2_ris)) :=
  spec_read (sy := y_ris) (fuel := 100) (Lp := noLoops) o_S13 mixed ⟨Try.func45, by kernel_rfl, by kernel_rfl⟩ ish_ris osh_ris (by kernel_rfl) (noLoops_ok _) (hT_of e_ris fun l r h => by
    have := val_ok h
    subst this
    unfold TL_ris T_ris RMem.is
    refine brD (fun hp => Tr.sat_ok.2 ?_) (fun hp => Tr.sat_ok.2 ?_)
    · rw [show decide (0 ≤ aI l 0) = true from decide_eq_true hp]; exact AtsEq.refl _
    · rw [show decide (0 ≤ aI l 0) = false from decide_eq_false hp]; exact AtsEq.refl _)

def RMem.hasOk (y : RMem) (i m : Int) : Prop := 0 ≤ m ∧ (0 ≤ i ∧ i < y.n) ∧ y.k = y.n ∧ m ≤ y.G i.toNat 0 ∧ RRowOk (y.G i.toNat 0) (y.L i.toNat)
noncomputable def F2_rhas (l : List At) : Tr (List At) := .br 0 (pdec ((mmr l 2).hasOk (aI l 0) (aI l 1))) (.ok (ra8 (rsS ((mmr l 2).S (aI l 0).toNat) ((mmr l 2).L (aI l 0).toNat) (aI l 1).toNat))) .no
theorem ra8_eq {w w' : Nat → Int} (h : ∀ c, c < 8 → w c = w' c) : AtsEq (ra8 w) (ra8 w') := by
  unfold ra8
  rw [h 0 (by decide), h 1 (by decide), h 2 (by decide), h 3 (by decide), h 4 (by decide), h 5 (by decide), h 6 (by decide), h 7 (by decide)]
  exact AtsEq.refl _
theorem rw8_get (f : Nat → Int) (c : Nat) (hc : c < 8) : rw8 (f 0) (f 1) (f 2) (f 3) (f 4) (f 5) (f 6) (f 7) c = f c := by
  match c, hc with
  | 0, _ | 1, _ | 2, _ | 3, _ | 4, _ | 5, _ | 6, _ | 7, _ => rfl
theorem t_rhas (i m : Int) (y : RMem) (h : y.hasOk i m) : (T_rhas i m y.off y.left y.count y.n y.S y.k y.G y.L).sat fun r => AtsEq r (ra8 (rsS (y.S i.toNat) (y.L i.toNat) m.toNat)) := by
  obtain ⟨h0, h1, h2, h3, h4, h5, h6⟩ := h
  unfold T_rhas
  refine brT (by simp [within]; omega) (brT (pdec_yes ⟨Int.le_refl _, h0, by omega, h3, by omega, fun j hj => h6 j (by omega)⟩) (Tr.sat_ok.2 ?_))
  rw [show m - 0 = m by omega]
  refine ra8_eq fun c hc => ?_
  unfold rsS
  rw [if_pos hc]
  exact apF_pt _ _ _ _ _ _ (rw8_get _ c hc) fun _ _ _ => ⟨rfl, rfl⟩
theorem s2_rhas : SpecF Try.prog 48 (.read (locR ish_rhas osh_rhas F2_rhas)) :=
  spec_read (sy := y_rhas) (fuel := 100) (Lp := Lp_rhas_3) o_rstep mixed ⟨Try.func48, by kernel_rfl, by kernel_rfl⟩ ish_rhas osh_rhas (by kernel_rfl) lk_rhas_3 (hT_of e_rhas fun l r h => by
    obtain ⟨h1, h⟩ := guard_val h
    have := val_ok h
    subst this
    exact t_rhas _ _ (mmr l 2) (of_pdec h1))
noncomputable def Γ_RS1 : Specs := upd (upd (upd Γ_rhas 45 (.read (locR ish_ris osh_ris F2_ris))) 46 (.eff (locF ish_rstep osh_rstep F2_rstep))) 48 (.read (locR ish_rhas osh_rhas F2_rhas))
theorem o_RS1 : SpecOK Try.prog Γ_RS1 := SpecOK.upd (SpecOK.upd (SpecOK.upd o_rhas s2_ris) s2_rstep) s2_rhas
end Go.Proofs.Ythgagehgiooklaa.G
end

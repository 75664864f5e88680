/-
  What functions of the seat compute, printed by a program from the explorer.
-/
import Derived.Test.YthpcjcdiaifoiaaE6ToS9
import Derived.KernelRfl
import Derived.Test.YthpcjcdiaifoiaaCrcVToO11
section
namespace Go.Proofs.Ythpcjcdiaifoiaa.G
open Go Go.AM Go.Proofs
/-! ### the loop at 8 of RlogOrder -/

noncomputable def lsh_RlogOrder_8 : FSh := ⟨[.v false [.sq 0 1], .any, .any, .any, .any, .any, .v false [.p 1 0], .any, .v false [.k (.n .i64)], .v false [.sw 2 1], .v false [.k (.n .i64)], .any, .any, .any, .any, .any, .any, .any, .any, .any, .any, .any, .any, .any, .any, .any, .any, .any, .any, .any, .any, .any, .any, .any, .any, .any, .any, .any, .any, .any, .any, .any, .any, .any, .any, .any, .any, .any, .any, .any, .any, .any, .any, .any, .any, .any, .any, .any, .any, .any, .any, .any, .any, .any, .any, .any, .any, .any, .any, .any, .any, .any, .any, .any, .any, .any, .any, .any, .any, .any, .any, .any, .any, .any, .any, .any, .any, .any, .any, .any, .any, .any, .any, .any, .any, .any, .any, .any, .any, .any, .any], [.rows [.n .i64] false, .cells [.sw 3 25, .k .b, .k .b, .k (.n .i64), .k (.n .i64)], .rows [.n .i64] true, .nrows [.n .u64, .n .u64, .n .u64, .n .u64, .n .u64, .n .u64, .n .u64, .n .u64, .n .u64, .n .u64, .n .u64, .n .u64, .n .u64, .n .u64, .n .u64, .n .u64, .n .i64, .n .i64, .n .i64, .n .i64, .n .i64, .n .i64, .n .i64, .n .i64, .n .i64] 16 [.n .i64, .n .u64] 4 false true, .no]⟩
noncomputable def xsh_RlogOrder_8_0 : FSh := ⟨[.any, .any, .any, .any, .any, .any, .v false [.p 1 0], .any, .v false [.k (.n .i64)], .v false [.sw 2 1], .any, .any, .any, .any, .any, .any, .any, .any, .any, .any, .any, .any, .any, .any, .any, .any, .any, .any, .any, .any, .any, .any, .any, .any, .any, .any, .any, .any, .any, .any, .any, .any, .any, .any, .any, .any, .any, .any, .any, .any, .any, .any, .any, .any, .any, .any, .any, .any, .any, .any, .any, .any, .any, .any, .any, .any, .any, .any, .any, .any, .any, .any, .any, .any, .any, .any, .any, .any, .any, .any, .any, .any, .any, .any, .any, .any, .any, .any, .any, .any, .any, .any, .any, .any, .any, .any, .any, .any, .any, .any, .any], [.no, .cells [.sw 3 25, .k .b, .k .b, .k (.n .i64), .k (.n .i64)], .rows [.n .i64] true, .nrows [.n .u64, .n .u64, .n .u64, .n .u64, .n .u64, .n .u64, .n .u64, .n .u64, .n .u64, .n .u64, .n .u64, .n .u64, .n .u64, .n .u64, .n .u64, .n .u64, .n .i64, .n .i64, .n .i64, .n .i64, .n .i64, .n .i64, .n .i64, .n .i64, .n .i64] 16 [.n .i64, .n .u64] 4 false true, .no]⟩
noncomputable def xsh_RlogOrder_8_1 : FSh := ⟨[.any, .any, .any, .any, .v false [.k .b], .any, .any, .any, .any, .any, .any, .any, .any, .any, .any, .any, .any, .any, .any, .any, .any, .any, .any, .any, .any, .any, .any, .any, .any, .any, .any, .any, .any, .any, .any, .any, .any, .any, .any, .any, .any, .any, .any, .any, .any, .any, .any, .any, .any, .any, .any, .any, .any, .any, .any, .any, .any, .any, .any, .any, .any, .any, .any, .any, .any, .any, .any, .any, .any, .any, .any, .any, .any, .any, .any, .any, .any, .any, .any, .any, .any, .any, .any, .any, .any, .any, .any, .any, .any, .any, .any, .any, .any, .any, .any, .any, .any, .any, .any, .any, .any], [.no]⟩
noncomputable def xs_RlogOrder_8 : Exs := fun e => match e with
  | .normal => some lsh_RlogOrder_8
  | .exit n => (match Nat.beq n 0 with | true => some xsh_RlogOrder_8_0 | false => none)
  | .ret => some xsh_RlogOrder_8_1
noncomputable def B_RlogOrder_8 (x0 : Nat) (x1 : Nat) (x2 : Int) (x3 : Int) (n4 : Nat) (g4 : Nat → Nat → Int) (x5 : Bool) (x6 : Bool) (x7 : Int) (x8 : Int) (n9 : Nat) (g9 : Nat → Nat → Int) (n10 : Nat) (g10 : Nat → Nat → Int) (h10 : Nat → Nat → Int) : Tr (Ex × List At) :=
 .br 35 (Decidable.decide (x3 < (↑x1 : Int)))
 (.br 38 (Decidable.decide (x3 < (8 : Int)))
 (.br 43 (Go.AM.within x3 x1)
 (.br 0 (Go.Proofs.Ythpcjcdiaifoiaa.G.ok_kind (g4 (x0 + Int.toNat x3) (0 : Nat)) (8 : Int))
 (.br 0 (Go.Proofs.Ythpcjcdiaifoiaa.G.pdec (Go.Proofs.Ythpcjcdiaifoiaa.G.Mem.Ok (880000 : Int) { n := n10, g := g10, h := h10, off := x5, burns := x6, left := x7, steps := x8 }))
 (.br 54 ((Go.Proofs.Ythpcjcdiaifoiaa.G.rapA (Go.Proofs.Ythpcjcdiaifoiaa.G.llW (Go.IntKind.wrap Go.IntKind.i64 ((50 : Int) - x3)) (0 : Int) (0 : Int) (0 : Int)) (Go.Proofs.Ythpcjcdiaifoiaa.G.r_lLine_8 (Go.IntKind.wrap Go.IntKind.i64 ((50 : Int) - x3)) (0 : Int) (0 : Int) (0 : Int)) { n := n10, g := g10, h := h10, off := x5, burns := x6, left := x7, steps := x8 } (Go.Proofs.Ythpcjcdiaifoiaa.G.r_kind_0 (g4 (x0 + Int.toNat x3) (0 : Nat)) (8 : Int)) (0 : Int)).snd != (0 : Int))
 (.br 57 ((Go.Proofs.Ythpcjcdiaifoiaa.G.rapA (Go.Proofs.Ythpcjcdiaifoiaa.G.llW (Go.IntKind.wrap Go.IntKind.i64 ((50 : Int) - x3)) (0 : Int) (0 : Int) (0 : Int)) (Go.Proofs.Ythpcjcdiaifoiaa.G.r_lLine_8 (Go.IntKind.wrap Go.IntKind.i64 ((50 : Int) - x3)) (0 : Int) (0 : Int) (0 : Int)) { n := n10, g := g10, h := h10, off := x5, burns := x6, left := x7, steps := x8 } (Go.Proofs.Ythpcjcdiaifoiaa.G.r_kind_0 (g4 (x0 + Int.toNat x3) (0 : Nat)) (8 : Int)) (0 : Int)).snd != (11 : Int))
 (.ok (.ret, [(.b (Bool.false))]))
 (.br 60 ((Go.Proofs.Ythpcjcdiaifoiaa.G.rapA (Go.Proofs.Ythpcjcdiaifoiaa.G.llW (Go.IntKind.wrap Go.IntKind.i64 ((50 : Int) - x3)) (0 : Int) (0 : Int) (0 : Int)) (Go.Proofs.Ythpcjcdiaifoiaa.G.r_lLine_8 (Go.IntKind.wrap Go.IntKind.i64 ((50 : Int) - x3)) (0 : Int) (0 : Int) (0 : Int)) { n := n10, g := g10, h := h10, off := x5, burns := x6, left := x7, steps := x8 } (Go.Proofs.Ythpcjcdiaifoiaa.G.r_kind_0 (g4 (x0 + Int.toNat x3) (0 : Nat)) (8 : Int)) (0 : Int)).snd == (0 : Int))
 (.br 64 (Decidable.decide (Go.Proofs.Ythpcjcdiaifoiaa.G.r_kind_0 (g4 (x0 + Int.toNat x3) (0 : Nat)) (8 : Int) < x2))
 (.br 69 (Decidable.decide ((1 : Nat) + n9 ≤ (1073741824 : Nat)))
 (.ok (.normal, [(.n (x0)), (.n (x1)), (.i (x2)), (.i (Go.IntKind.wrap Go.IntKind.i64 (x3 + (1 : Int)))), (.r (n4) (g4)), (.b ((Go.Proofs.Ythpcjcdiaifoiaa.G.rapA (Go.Proofs.Ythpcjcdiaifoiaa.G.llW (Go.IntKind.wrap Go.IntKind.i64 ((50 : Int) - x3)) (0 : Int) (0 : Int) (0 : Int)) (Go.Proofs.Ythpcjcdiaifoiaa.G.r_lLine_8 (Go.IntKind.wrap Go.IntKind.i64 ((50 : Int) - x3)) (0 : Int) (0 : Int) (0 : Int)) { n := n10, g := g10, h := h10, off := x5, burns := x6, left := x7, steps := x8 } (Go.Proofs.Ythpcjcdiaifoiaa.G.r_kind_0 (g4 (x0 + Int.toNat x3) (0 : Nat)) (8 : Int)) (0 : Int)).fst.off)), (.b ((Go.Proofs.Ythpcjcdiaifoiaa.G.rapA (Go.Proofs.Ythpcjcdiaifoiaa.G.llW (Go.IntKind.wrap Go.IntKind.i64 ((50 : Int) - x3)) (0 : Int) (0 : Int) (0 : Int)) (Go.Proofs.Ythpcjcdiaifoiaa.G.r_lLine_8 (Go.IntKind.wrap Go.IntKind.i64 ((50 : Int) - x3)) (0 : Int) (0 : Int) (0 : Int)) { n := n10, g := g10, h := h10, off := x5, burns := x6, left := x7, steps := x8 } (Go.Proofs.Ythpcjcdiaifoiaa.G.r_kind_0 (g4 (x0 + Int.toNat x3) (0 : Nat)) (8 : Int)) (0 : Int)).fst.burns)), (.i ((Go.Proofs.Ythpcjcdiaifoiaa.G.rapA (Go.Proofs.Ythpcjcdiaifoiaa.G.llW (Go.IntKind.wrap Go.IntKind.i64 ((50 : Int) - x3)) (0 : Int) (0 : Int) (0 : Int)) (Go.Proofs.Ythpcjcdiaifoiaa.G.r_lLine_8 (Go.IntKind.wrap Go.IntKind.i64 ((50 : Int) - x3)) (0 : Int) (0 : Int) (0 : Int)) { n := n10, g := g10, h := h10, off := x5, burns := x6, left := x7, steps := x8 } (Go.Proofs.Ythpcjcdiaifoiaa.G.r_kind_0 (g4 (x0 + Int.toNat x3) (0 : Nat)) (8 : Int)) (0 : Int)).fst.left)), (.i ((Go.Proofs.Ythpcjcdiaifoiaa.G.rapA (Go.Proofs.Ythpcjcdiaifoiaa.G.llW (Go.IntKind.wrap Go.IntKind.i64 ((50 : Int) - x3)) (0 : Int) (0 : Int) (0 : Int)) (Go.Proofs.Ythpcjcdiaifoiaa.G.r_lLine_8 (Go.IntKind.wrap Go.IntKind.i64 ((50 : Int) - x3)) (0 : Int) (0 : Int) (0 : Int)) { n := n10, g := g10, h := h10, off := x5, burns := x6, left := x7, steps := x8 } (Go.Proofs.Ythpcjcdiaifoiaa.G.r_kind_0 (g4 (x0 + Int.toNat x3) (0 : Nat)) (8 : Int)) (0 : Int)).fst.steps)), (.r ((1 : Nat) + n9) (Go.AM.appG (Go.AM.rowsF [[Go.IntKind.wrap Go.IntKind.i64 ((50 : Int) - x3)]]) (1 : Nat) fun (j c : Nat) => g9 ((0 : Nat) + j) c)), (.q ((Go.Proofs.Ythpcjcdiaifoiaa.G.rapA (Go.Proofs.Ythpcjcdiaifoiaa.G.llW (Go.IntKind.wrap Go.IntKind.i64 ((50 : Int) - x3)) (0 : Int) (0 : Int) (0 : Int)) (Go.Proofs.Ythpcjcdiaifoiaa.G.r_lLine_8 (Go.IntKind.wrap Go.IntKind.i64 ((50 : Int) - x3)) (0 : Int) (0 : Int) (0 : Int)) { n := n10, g := g10, h := h10, off := x5, burns := x6, left := x7, steps := x8 } (Go.Proofs.Ythpcjcdiaifoiaa.G.r_kind_0 (g4 (x0 + Int.toNat x3) (0 : Nat)) (8 : Int)) (0 : Int)).fst.n) ((Go.Proofs.Ythpcjcdiaifoiaa.G.rapA (Go.Proofs.Ythpcjcdiaifoiaa.G.llW (Go.IntKind.wrap Go.IntKind.i64 ((50 : Int) - x3)) (0 : Int) (0 : Int) (0 : Int)) (Go.Proofs.Ythpcjcdiaifoiaa.G.r_lLine_8 (Go.IntKind.wrap Go.IntKind.i64 ((50 : Int) - x3)) (0 : Int) (0 : Int) (0 : Int)) { n := n10, g := g10, h := h10, off := x5, burns := x6, left := x7, steps := x8 } (Go.Proofs.Ythpcjcdiaifoiaa.G.r_kind_0 (g4 (x0 + Int.toNat x3) (0 : Nat)) (8 : Int)) (0 : Int)).fst.g) ((16 : Nat)) ((2 : Nat)) ((Go.Proofs.Ythpcjcdiaifoiaa.G.rapA (Go.Proofs.Ythpcjcdiaifoiaa.G.llW (Go.IntKind.wrap Go.IntKind.i64 ((50 : Int) - x3)) (0 : Int) (0 : Int) (0 : Int)) (Go.Proofs.Ythpcjcdiaifoiaa.G.r_lLine_8 (Go.IntKind.wrap Go.IntKind.i64 ((50 : Int) - x3)) (0 : Int) (0 : Int) (0 : Int)) { n := n10, g := g10, h := h10, off := x5, burns := x6, left := x7, steps := x8 } (Go.Proofs.Ythpcjcdiaifoiaa.G.r_kind_0 (g4 (x0 + Int.toNat x3) (0 : Nat)) (8 : Int)) (0 : Int)).fst.h))]))
 (.no))
 (.ok (.normal, [(.n (x0)), (.n (x1)), (.i (x2)), (.i (Go.IntKind.wrap Go.IntKind.i64 (x3 + (1 : Int)))), (.r (n4) (g4)), (.b ((Go.Proofs.Ythpcjcdiaifoiaa.G.rapA (Go.Proofs.Ythpcjcdiaifoiaa.G.llW (Go.IntKind.wrap Go.IntKind.i64 ((50 : Int) - x3)) (0 : Int) (0 : Int) (0 : Int)) (Go.Proofs.Ythpcjcdiaifoiaa.G.r_lLine_8 (Go.IntKind.wrap Go.IntKind.i64 ((50 : Int) - x3)) (0 : Int) (0 : Int) (0 : Int)) { n := n10, g := g10, h := h10, off := x5, burns := x6, left := x7, steps := x8 } (Go.Proofs.Ythpcjcdiaifoiaa.G.r_kind_0 (g4 (x0 + Int.toNat x3) (0 : Nat)) (8 : Int)) (0 : Int)).fst.off)), (.b ((Go.Proofs.Ythpcjcdiaifoiaa.G.rapA (Go.Proofs.Ythpcjcdiaifoiaa.G.llW (Go.IntKind.wrap Go.IntKind.i64 ((50 : Int) - x3)) (0 : Int) (0 : Int) (0 : Int)) (Go.Proofs.Ythpcjcdiaifoiaa.G.r_lLine_8 (Go.IntKind.wrap Go.IntKind.i64 ((50 : Int) - x3)) (0 : Int) (0 : Int) (0 : Int)) { n := n10, g := g10, h := h10, off := x5, burns := x6, left := x7, steps := x8 } (Go.Proofs.Ythpcjcdiaifoiaa.G.r_kind_0 (g4 (x0 + Int.toNat x3) (0 : Nat)) (8 : Int)) (0 : Int)).fst.burns)), (.i ((Go.Proofs.Ythpcjcdiaifoiaa.G.rapA (Go.Proofs.Ythpcjcdiaifoiaa.G.llW (Go.IntKind.wrap Go.IntKind.i64 ((50 : Int) - x3)) (0 : Int) (0 : Int) (0 : Int)) (Go.Proofs.Ythpcjcdiaifoiaa.G.r_lLine_8 (Go.IntKind.wrap Go.IntKind.i64 ((50 : Int) - x3)) (0 : Int) (0 : Int) (0 : Int)) { n := n10, g := g10, h := h10, off := x5, burns := x6, left := x7, steps := x8 } (Go.Proofs.Ythpcjcdiaifoiaa.G.r_kind_0 (g4 (x0 + Int.toNat x3) (0 : Nat)) (8 : Int)) (0 : Int)).fst.left)), (.i ((Go.Proofs.Ythpcjcdiaifoiaa.G.rapA (Go.Proofs.Ythpcjcdiaifoiaa.G.llW (Go.IntKind.wrap Go.IntKind.i64 ((50 : Int) - x3)) (0 : Int) (0 : Int) (0 : Int)) (Go.Proofs.Ythpcjcdiaifoiaa.G.r_lLine_8 (Go.IntKind.wrap Go.IntKind.i64 ((50 : Int) - x3)) (0 : Int) (0 : Int) (0 : Int)) { n := n10, g := g10, h := h10, off := x5, burns := x6, left := x7, steps := x8 } (Go.Proofs.Ythpcjcdiaifoiaa.G.r_kind_0 (g4 (x0 + Int.toNat x3) (0 : Nat)) (8 : Int)) (0 : Int)).fst.steps)), (.r (n9) (g9)), (.q ((Go.Proofs.Ythpcjcdiaifoiaa.G.rapA (Go.Proofs.Ythpcjcdiaifoiaa.G.llW (Go.IntKind.wrap Go.IntKind.i64 ((50 : Int) - x3)) (0 : Int) (0 : Int) (0 : Int)) (Go.Proofs.Ythpcjcdiaifoiaa.G.r_lLine_8 (Go.IntKind.wrap Go.IntKind.i64 ((50 : Int) - x3)) (0 : Int) (0 : Int) (0 : Int)) { n := n10, g := g10, h := h10, off := x5, burns := x6, left := x7, steps := x8 } (Go.Proofs.Ythpcjcdiaifoiaa.G.r_kind_0 (g4 (x0 + Int.toNat x3) (0 : Nat)) (8 : Int)) (0 : Int)).fst.n) ((Go.Proofs.Ythpcjcdiaifoiaa.G.rapA (Go.Proofs.Ythpcjcdiaifoiaa.G.llW (Go.IntKind.wrap Go.IntKind.i64 ((50 : Int) - x3)) (0 : Int) (0 : Int) (0 : Int)) (Go.Proofs.Ythpcjcdiaifoiaa.G.r_lLine_8 (Go.IntKind.wrap Go.IntKind.i64 ((50 : Int) - x3)) (0 : Int) (0 : Int) (0 : Int)) { n := n10, g := g10, h := h10, off := x5, burns := x6, left := x7, steps := x8 } (Go.Proofs.Ythpcjcdiaifoiaa.G.r_kind_0 (g4 (x0 + Int.toNat x3) (0 : Nat)) (8 : Int)) (0 : Int)).fst.g) ((16 : Nat)) ((2 : Nat)) ((Go.Proofs.Ythpcjcdiaifoiaa.G.rapA (Go.Proofs.Ythpcjcdiaifoiaa.G.llW (Go.IntKind.wrap Go.IntKind.i64 ((50 : Int) - x3)) (0 : Int) (0 : Int) (0 : Int)) (Go.Proofs.Ythpcjcdiaifoiaa.G.r_lLine_8 (Go.IntKind.wrap Go.IntKind.i64 ((50 : Int) - x3)) (0 : Int) (0 : Int) (0 : Int)) { n := n10, g := g10, h := h10, off := x5, burns := x6, left := x7, steps := x8 } (Go.Proofs.Ythpcjcdiaifoiaa.G.r_kind_0 (g4 (x0 + Int.toNat x3) (0 : Nat)) (8 : Int)) (0 : Int)).fst.h))])))
 (.ok (.normal, [(.n (x0)), (.n (x1)), (.i (x2)), (.i (Go.IntKind.wrap Go.IntKind.i64 (x3 + (1 : Int)))), (.r (n4) (g4)), (.b ((Go.Proofs.Ythpcjcdiaifoiaa.G.rapA (Go.Proofs.Ythpcjcdiaifoiaa.G.llW (Go.IntKind.wrap Go.IntKind.i64 ((50 : Int) - x3)) (0 : Int) (0 : Int) (0 : Int)) (Go.Proofs.Ythpcjcdiaifoiaa.G.r_lLine_8 (Go.IntKind.wrap Go.IntKind.i64 ((50 : Int) - x3)) (0 : Int) (0 : Int) (0 : Int)) { n := n10, g := g10, h := h10, off := x5, burns := x6, left := x7, steps := x8 } (Go.Proofs.Ythpcjcdiaifoiaa.G.r_kind_0 (g4 (x0 + Int.toNat x3) (0 : Nat)) (8 : Int)) (0 : Int)).fst.off)), (.b ((Go.Proofs.Ythpcjcdiaifoiaa.G.rapA (Go.Proofs.Ythpcjcdiaifoiaa.G.llW (Go.IntKind.wrap Go.IntKind.i64 ((50 : Int) - x3)) (0 : Int) (0 : Int) (0 : Int)) (Go.Proofs.Ythpcjcdiaifoiaa.G.r_lLine_8 (Go.IntKind.wrap Go.IntKind.i64 ((50 : Int) - x3)) (0 : Int) (0 : Int) (0 : Int)) { n := n10, g := g10, h := h10, off := x5, burns := x6, left := x7, steps := x8 } (Go.Proofs.Ythpcjcdiaifoiaa.G.r_kind_0 (g4 (x0 + Int.toNat x3) (0 : Nat)) (8 : Int)) (0 : Int)).fst.burns)), (.i ((Go.Proofs.Ythpcjcdiaifoiaa.G.rapA (Go.Proofs.Ythpcjcdiaifoiaa.G.llW (Go.IntKind.wrap Go.IntKind.i64 ((50 : Int) - x3)) (0 : Int) (0 : Int) (0 : Int)) (Go.Proofs.Ythpcjcdiaifoiaa.G.r_lLine_8 (Go.IntKind.wrap Go.IntKind.i64 ((50 : Int) - x3)) (0 : Int) (0 : Int) (0 : Int)) { n := n10, g := g10, h := h10, off := x5, burns := x6, left := x7, steps := x8 } (Go.Proofs.Ythpcjcdiaifoiaa.G.r_kind_0 (g4 (x0 + Int.toNat x3) (0 : Nat)) (8 : Int)) (0 : Int)).fst.left)), (.i ((Go.Proofs.Ythpcjcdiaifoiaa.G.rapA (Go.Proofs.Ythpcjcdiaifoiaa.G.llW (Go.IntKind.wrap Go.IntKind.i64 ((50 : Int) - x3)) (0 : Int) (0 : Int) (0 : Int)) (Go.Proofs.Ythpcjcdiaifoiaa.G.r_lLine_8 (Go.IntKind.wrap Go.IntKind.i64 ((50 : Int) - x3)) (0 : Int) (0 : Int) (0 : Int)) { n := n10, g := g10, h := h10, off := x5, burns := x6, left := x7, steps := x8 } (Go.Proofs.Ythpcjcdiaifoiaa.G.r_kind_0 (g4 (x0 + Int.toNat x3) (0 : Nat)) (8 : Int)) (0 : Int)).fst.steps)), (.r (n9) (g9)), (.q ((Go.Proofs.Ythpcjcdiaifoiaa.G.rapA (Go.Proofs.Ythpcjcdiaifoiaa.G.llW (Go.IntKind.wrap Go.IntKind.i64 ((50 : Int) - x3)) (0 : Int) (0 : Int) (0 : Int)) (Go.Proofs.Ythpcjcdiaifoiaa.G.r_lLine_8 (Go.IntKind.wrap Go.IntKind.i64 ((50 : Int) - x3)) (0 : Int) (0 : Int) (0 : Int)) { n := n10, g := g10, h := h10, off := x5, burns := x6, left := x7, steps := x8 } (Go.Proofs.Ythpcjcdiaifoiaa.G.r_kind_0 (g4 (x0 + Int.toNat x3) (0 : Nat)) (8 : Int)) (0 : Int)).fst.n) ((Go.Proofs.Ythpcjcdiaifoiaa.G.rapA (Go.Proofs.Ythpcjcdiaifoiaa.G.llW (Go.IntKind.wrap Go.IntKind.i64 ((50 : Int) - x3)) (0 : Int) (0 : Int) (0 : Int)) (Go.Proofs.Ythpcjcdiaifoiaa.G.r_lLine_8 (Go.IntKind.wrap Go.IntKind.i64 ((50 : Int) - x3)) (0 : Int) (0 : Int) (0 : Int)) { n := n10, g := g10, h := h10, off := x5, burns := x6, left := x7, steps := x8 } (Go.Proofs.Ythpcjcdiaifoiaa.G.r_kind_0 (g4 (x0 + Int.toNat x3) (0 : Nat)) (8 : Int)) (0 : Int)).fst.g) ((16 : Nat)) ((2 : Nat)) ((Go.Proofs.Ythpcjcdiaifoiaa.G.rapA (Go.Proofs.Ythpcjcdiaifoiaa.G.llW (Go.IntKind.wrap Go.IntKind.i64 ((50 : Int) - x3)) (0 : Int) (0 : Int) (0 : Int)) (Go.Proofs.Ythpcjcdiaifoiaa.G.r_lLine_8 (Go.IntKind.wrap Go.IntKind.i64 ((50 : Int) - x3)) (0 : Int) (0 : Int) (0 : Int)) { n := n10, g := g10, h := h10, off := x5, burns := x6, left := x7, steps := x8 } (Go.Proofs.Ythpcjcdiaifoiaa.G.r_kind_0 (g4 (x0 + Int.toNat x3) (0 : Nat)) (8 : Int)) (0 : Int)).fst.h))]))))
 (.br 60 ((Go.Proofs.Ythpcjcdiaifoiaa.G.rapA (Go.Proofs.Ythpcjcdiaifoiaa.G.llW (Go.IntKind.wrap Go.IntKind.i64 ((50 : Int) - x3)) (0 : Int) (0 : Int) (0 : Int)) (Go.Proofs.Ythpcjcdiaifoiaa.G.r_lLine_8 (Go.IntKind.wrap Go.IntKind.i64 ((50 : Int) - x3)) (0 : Int) (0 : Int) (0 : Int)) { n := n10, g := g10, h := h10, off := x5, burns := x6, left := x7, steps := x8 } (Go.Proofs.Ythpcjcdiaifoiaa.G.r_kind_0 (g4 (x0 + Int.toNat x3) (0 : Nat)) (8 : Int)) (0 : Int)).snd == (0 : Int))
 (.br 64 (Decidable.decide (Go.Proofs.Ythpcjcdiaifoiaa.G.r_kind_0 (g4 (x0 + Int.toNat x3) (0 : Nat)) (8 : Int) < x2))
 (.br 69 (Decidable.decide ((1 : Nat) + n9 ≤ (1073741824 : Nat)))
 (.ok (.normal, [(.n (x0)), (.n (x1)), (.i (x2)), (.i (Go.IntKind.wrap Go.IntKind.i64 (x3 + (1 : Int)))), (.r (n4) (g4)), (.b ((Go.Proofs.Ythpcjcdiaifoiaa.G.rapA (Go.Proofs.Ythpcjcdiaifoiaa.G.llW (Go.IntKind.wrap Go.IntKind.i64 ((50 : Int) - x3)) (0 : Int) (0 : Int) (0 : Int)) (Go.Proofs.Ythpcjcdiaifoiaa.G.r_lLine_8 (Go.IntKind.wrap Go.IntKind.i64 ((50 : Int) - x3)) (0 : Int) (0 : Int) (0 : Int)) { n := n10, g := g10, h := h10, off := x5, burns := x6, left := x7, steps := x8 } (Go.Proofs.Ythpcjcdiaifoiaa.G.r_kind_0 (g4 (x0 + Int.toNat x3) (0 : Nat)) (8 : Int)) (0 : Int)).fst.off)), (.b ((Go.Proofs.Ythpcjcdiaifoiaa.G.rapA (Go.Proofs.Ythpcjcdiaifoiaa.G.llW (Go.IntKind.wrap Go.IntKind.i64 ((50 : Int) - x3)) (0 : Int) (0 : Int) (0 : Int)) (Go.Proofs.Ythpcjcdiaifoiaa.G.r_lLine_8 (Go.IntKind.wrap Go.IntKind.i64 ((50 : Int) - x3)) (0 : Int) (0 : Int) (0 : Int)) { n := n10, g := g10, h := h10, off := x5, burns := x6, left := x7, steps := x8 } (Go.Proofs.Ythpcjcdiaifoiaa.G.r_kind_0 (g4 (x0 + Int.toNat x3) (0 : Nat)) (8 : Int)) (0 : Int)).fst.burns)), (.i ((Go.Proofs.Ythpcjcdiaifoiaa.G.rapA (Go.Proofs.Ythpcjcdiaifoiaa.G.llW (Go.IntKind.wrap Go.IntKind.i64 ((50 : Int) - x3)) (0 : Int) (0 : Int) (0 : Int)) (Go.Proofs.Ythpcjcdiaifoiaa.G.r_lLine_8 (Go.IntKind.wrap Go.IntKind.i64 ((50 : Int) - x3)) (0 : Int) (0 : Int) (0 : Int)) { n := n10, g := g10, h := h10, off := x5, burns := x6, left := x7, steps := x8 } (Go.Proofs.Ythpcjcdiaifoiaa.G.r_kind_0 (g4 (x0 + Int.toNat x3) (0 : Nat)) (8 : Int)) (0 : Int)).fst.left)), (.i ((Go.Proofs.Ythpcjcdiaifoiaa.G.rapA (Go.Proofs.Ythpcjcdiaifoiaa.G.llW (Go.IntKind.wrap Go.IntKind.i64 ((50 : Int) - x3)) (0 : Int) (0 : Int) (0 : Int)) (Go.Proofs.Ythpcjcdiaifoiaa.G.r_lLine_8 (Go.IntKind.wrap Go.IntKind.i64 ((50 : Int) - x3)) (0 : Int) (0 : Int) (0 : Int)) { n := n10, g := g10, h := h10, off := x5, burns := x6, left := x7, steps := x8 } (Go.Proofs.Ythpcjcdiaifoiaa.G.r_kind_0 (g4 (x0 + Int.toNat x3) (0 : Nat)) (8 : Int)) (0 : Int)).fst.steps)), (.r ((1 : Nat) + n9) (Go.AM.appG (Go.AM.rowsF [[Go.IntKind.wrap Go.IntKind.i64 ((50 : Int) - x3)]]) (1 : Nat) fun (j c : Nat) => g9 ((0 : Nat) + j) c)), (.q ((Go.Proofs.Ythpcjcdiaifoiaa.G.rapA (Go.Proofs.Ythpcjcdiaifoiaa.G.llW (Go.IntKind.wrap Go.IntKind.i64 ((50 : Int) - x3)) (0 : Int) (0 : Int) (0 : Int)) (Go.Proofs.Ythpcjcdiaifoiaa.G.r_lLine_8 (Go.IntKind.wrap Go.IntKind.i64 ((50 : Int) - x3)) (0 : Int) (0 : Int) (0 : Int)) { n := n10, g := g10, h := h10, off := x5, burns := x6, left := x7, steps := x8 } (Go.Proofs.Ythpcjcdiaifoiaa.G.r_kind_0 (g4 (x0 + Int.toNat x3) (0 : Nat)) (8 : Int)) (0 : Int)).fst.n) ((Go.Proofs.Ythpcjcdiaifoiaa.G.rapA (Go.Proofs.Ythpcjcdiaifoiaa.G.llW (Go.IntKind.wrap Go.IntKind.i64 ((50 : Int) - x3)) (0 : Int) (0 : Int) (0 : Int)) (Go.Proofs.Ythpcjcdiaifoiaa.G.r_lLine_8 (Go.IntKind.wrap Go.IntKind.i64 ((50 : Int) - x3)) (0 : Int) (0 : Int) (0 : Int)) { n := n10, g := g10, h := h10, off := x5, burns := x6, left := x7, steps := x8 } (Go.Proofs.Ythpcjcdiaifoiaa.G.r_kind_0 (g4 (x0 + Int.toNat x3) (0 : Nat)) (8 : Int)) (0 : Int)).fst.g) ((16 : Nat)) ((2 : Nat)) ((Go.Proofs.Ythpcjcdiaifoiaa.G.rapA (Go.Proofs.Ythpcjcdiaifoiaa.G.llW (Go.IntKind.wrap Go.IntKind.i64 ((50 : Int) - x3)) (0 : Int) (0 : Int) (0 : Int)) (Go.Proofs.Ythpcjcdiaifoiaa.G.r_lLine_8 (Go.IntKind.wrap Go.IntKind.i64 ((50 : Int) - x3)) (0 : Int) (0 : Int) (0 : Int)) { n := n10, g := g10, h := h10, off := x5, burns := x6, left := x7, steps := x8 } (Go.Proofs.Ythpcjcdiaifoiaa.G.r_kind_0 (g4 (x0 + Int.toNat x3) (0 : Nat)) (8 : Int)) (0 : Int)).fst.h))]))
 (.no))
 (.ok (.normal, [(.n (x0)), (.n (x1)), (.i (x2)), (.i (Go.IntKind.wrap Go.IntKind.i64 (x3 + (1 : Int)))), (.r (n4) (g4)), (.b ((Go.Proofs.Ythpcjcdiaifoiaa.G.rapA (Go.Proofs.Ythpcjcdiaifoiaa.G.llW (Go.IntKind.wrap Go.IntKind.i64 ((50 : Int) - x3)) (0 : Int) (0 : Int) (0 : Int)) (Go.Proofs.Ythpcjcdiaifoiaa.G.r_lLine_8 (Go.IntKind.wrap Go.IntKind.i64 ((50 : Int) - x3)) (0 : Int) (0 : Int) (0 : Int)) { n := n10, g := g10, h := h10, off := x5, burns := x6, left := x7, steps := x8 } (Go.Proofs.Ythpcjcdiaifoiaa.G.r_kind_0 (g4 (x0 + Int.toNat x3) (0 : Nat)) (8 : Int)) (0 : Int)).fst.off)), (.b ((Go.Proofs.Ythpcjcdiaifoiaa.G.rapA (Go.Proofs.Ythpcjcdiaifoiaa.G.llW (Go.IntKind.wrap Go.IntKind.i64 ((50 : Int) - x3)) (0 : Int) (0 : Int) (0 : Int)) (Go.Proofs.Ythpcjcdiaifoiaa.G.r_lLine_8 (Go.IntKind.wrap Go.IntKind.i64 ((50 : Int) - x3)) (0 : Int) (0 : Int) (0 : Int)) { n := n10, g := g10, h := h10, off := x5, burns := x6, left := x7, steps := x8 } (Go.Proofs.Ythpcjcdiaifoiaa.G.r_kind_0 (g4 (x0 + Int.toNat x3) (0 : Nat)) (8 : Int)) (0 : Int)).fst.burns)), (.i ((Go.Proofs.Ythpcjcdiaifoiaa.G.rapA (Go.Proofs.Ythpcjcdiaifoiaa.G.llW (Go.IntKind.wrap Go.IntKind.i64 ((50 : Int) - x3)) (0 : Int) (0 : Int) (0 : Int)) (Go.Proofs.Ythpcjcdiaifoiaa.G.r_lLine_8 (Go.IntKind.wrap Go.IntKind.i64 ((50 : Int) - x3)) (0 : Int) (0 : Int) (0 : Int)) { n := n10, g := g10, h := h10, off := x5, burns := x6, left := x7, steps := x8 } (Go.Proofs.Ythpcjcdiaifoiaa.G.r_kind_0 (g4 (x0 + Int.toNat x3) (0 : Nat)) (8 : Int)) (0 : Int)).fst.left)), (.i ((Go.Proofs.Ythpcjcdiaifoiaa.G.rapA (Go.Proofs.Ythpcjcdiaifoiaa.G.llW (Go.IntKind.wrap Go.IntKind.i64 ((50 : Int) - x3)) (0 : Int) (0 : Int) (0 : Int)) (Go.Proofs.Ythpcjcdiaifoiaa.G.r_lLine_8 (Go.IntKind.wrap Go.IntKind.i64 ((50 : Int) - x3)) (0 : Int) (0 : Int) (0 : Int)) { n := n10, g := g10, h := h10, off := x5, burns := x6, left := x7, steps := x8 } (Go.Proofs.Ythpcjcdiaifoiaa.G.r_kind_0 (g4 (x0 + Int.toNat x3) (0 : Nat)) (8 : Int)) (0 : Int)).fst.steps)), (.r (n9) (g9)), (.q ((Go.Proofs.Ythpcjcdiaifoiaa.G.rapA (Go.Proofs.Ythpcjcdiaifoiaa.G.llW (Go.IntKind.wrap Go.IntKind.i64 ((50 : Int) - x3)) (0 : Int) (0 : Int) (0 : Int)) (Go.Proofs.Ythpcjcdiaifoiaa.G.r_lLine_8 (Go.IntKind.wrap Go.IntKind.i64 ((50 : Int) - x3)) (0 : Int) (0 : Int) (0 : Int)) { n := n10, g := g10, h := h10, off := x5, burns := x6, left := x7, steps := x8 } (Go.Proofs.Ythpcjcdiaifoiaa.G.r_kind_0 (g4 (x0 + Int.toNat x3) (0 : Nat)) (8 : Int)) (0 : Int)).fst.n) ((Go.Proofs.Ythpcjcdiaifoiaa.G.rapA (Go.Proofs.Ythpcjcdiaifoiaa.G.llW (Go.IntKind.wrap Go.IntKind.i64 ((50 : Int) - x3)) (0 : Int) (0 : Int) (0 : Int)) (Go.Proofs.Ythpcjcdiaifoiaa.G.r_lLine_8 (Go.IntKind.wrap Go.IntKind.i64 ((50 : Int) - x3)) (0 : Int) (0 : Int) (0 : Int)) { n := n10, g := g10, h := h10, off := x5, burns := x6, left := x7, steps := x8 } (Go.Proofs.Ythpcjcdiaifoiaa.G.r_kind_0 (g4 (x0 + Int.toNat x3) (0 : Nat)) (8 : Int)) (0 : Int)).fst.g) ((16 : Nat)) ((2 : Nat)) ((Go.Proofs.Ythpcjcdiaifoiaa.G.rapA (Go.Proofs.Ythpcjcdiaifoiaa.G.llW (Go.IntKind.wrap Go.IntKind.i64 ((50 : Int) - x3)) (0 : Int) (0 : Int) (0 : Int)) (Go.Proofs.Ythpcjcdiaifoiaa.G.r_lLine_8 (Go.IntKind.wrap Go.IntKind.i64 ((50 : Int) - x3)) (0 : Int) (0 : Int) (0 : Int)) { n := n10, g := g10, h := h10, off := x5, burns := x6, left := x7, steps := x8 } (Go.Proofs.Ythpcjcdiaifoiaa.G.r_kind_0 (g4 (x0 + Int.toNat x3) (0 : Nat)) (8 : Int)) (0 : Int)).fst.h))])))
 (.ok (.normal, [(.n (x0)), (.n (x1)), (.i (x2)), (.i (Go.IntKind.wrap Go.IntKind.i64 (x3 + (1 : Int)))), (.r (n4) (g4)), (.b ((Go.Proofs.Ythpcjcdiaifoiaa.G.rapA (Go.Proofs.Ythpcjcdiaifoiaa.G.llW (Go.IntKind.wrap Go.IntKind.i64 ((50 : Int) - x3)) (0 : Int) (0 : Int) (0 : Int)) (Go.Proofs.Ythpcjcdiaifoiaa.G.r_lLine_8 (Go.IntKind.wrap Go.IntKind.i64 ((50 : Int) - x3)) (0 : Int) (0 : Int) (0 : Int)) { n := n10, g := g10, h := h10, off := x5, burns := x6, left := x7, steps := x8 } (Go.Proofs.Ythpcjcdiaifoiaa.G.r_kind_0 (g4 (x0 + Int.toNat x3) (0 : Nat)) (8 : Int)) (0 : Int)).fst.off)), (.b ((Go.Proofs.Ythpcjcdiaifoiaa.G.rapA (Go.Proofs.Ythpcjcdiaifoiaa.G.llW (Go.IntKind.wrap Go.IntKind.i64 ((50 : Int) - x3)) (0 : Int) (0 : Int) (0 : Int)) (Go.Proofs.Ythpcjcdiaifoiaa.G.r_lLine_8 (Go.IntKind.wrap Go.IntKind.i64 ((50 : Int) - x3)) (0 : Int) (0 : Int) (0 : Int)) { n := n10, g := g10, h := h10, off := x5, burns := x6, left := x7, steps := x8 } (Go.Proofs.Ythpcjcdiaifoiaa.G.r_kind_0 (g4 (x0 + Int.toNat x3) (0 : Nat)) (8 : Int)) (0 : Int)).fst.burns)), (.i ((Go.Proofs.Ythpcjcdiaifoiaa.G.rapA (Go.Proofs.Ythpcjcdiaifoiaa.G.llW (Go.IntKind.wrap Go.IntKind.i64 ((50 : Int) - x3)) (0 : Int) (0 : Int) (0 : Int)) (Go.Proofs.Ythpcjcdiaifoiaa.G.r_lLine_8 (Go.IntKind.wrap Go.IntKind.i64 ((50 : Int) - x3)) (0 : Int) (0 : Int) (0 : Int)) { n := n10, g := g10, h := h10, off := x5, burns := x6, left := x7, steps := x8 } (Go.Proofs.Ythpcjcdiaifoiaa.G.r_kind_0 (g4 (x0 + Int.toNat x3) (0 : Nat)) (8 : Int)) (0 : Int)).fst.left)), (.i ((Go.Proofs.Ythpcjcdiaifoiaa.G.rapA (Go.Proofs.Ythpcjcdiaifoiaa.G.llW (Go.IntKind.wrap Go.IntKind.i64 ((50 : Int) - x3)) (0 : Int) (0 : Int) (0 : Int)) (Go.Proofs.Ythpcjcdiaifoiaa.G.r_lLine_8 (Go.IntKind.wrap Go.IntKind.i64 ((50 : Int) - x3)) (0 : Int) (0 : Int) (0 : Int)) { n := n10, g := g10, h := h10, off := x5, burns := x6, left := x7, steps := x8 } (Go.Proofs.Ythpcjcdiaifoiaa.G.r_kind_0 (g4 (x0 + Int.toNat x3) (0 : Nat)) (8 : Int)) (0 : Int)).fst.steps)), (.r (n9) (g9)), (.q ((Go.Proofs.Ythpcjcdiaifoiaa.G.rapA (Go.Proofs.Ythpcjcdiaifoiaa.G.llW (Go.IntKind.wrap Go.IntKind.i64 ((50 : Int) - x3)) (0 : Int) (0 : Int) (0 : Int)) (Go.Proofs.Ythpcjcdiaifoiaa.G.r_lLine_8 (Go.IntKind.wrap Go.IntKind.i64 ((50 : Int) - x3)) (0 : Int) (0 : Int) (0 : Int)) { n := n10, g := g10, h := h10, off := x5, burns := x6, left := x7, steps := x8 } (Go.Proofs.Ythpcjcdiaifoiaa.G.r_kind_0 (g4 (x0 + Int.toNat x3) (0 : Nat)) (8 : Int)) (0 : Int)).fst.n) ((Go.Proofs.Ythpcjcdiaifoiaa.G.rapA (Go.Proofs.Ythpcjcdiaifoiaa.G.llW (Go.IntKind.wrap Go.IntKind.i64 ((50 : Int) - x3)) (0 : Int) (0 : Int) (0 : Int)) (Go.Proofs.Ythpcjcdiaifoiaa.G.r_lLine_8 (Go.IntKind.wrap Go.IntKind.i64 ((50 : Int) - x3)) (0 : Int) (0 : Int) (0 : Int)) { n := n10, g := g10, h := h10, off := x5, burns := x6, left := x7, steps := x8 } (Go.Proofs.Ythpcjcdiaifoiaa.G.r_kind_0 (g4 (x0 + Int.toNat x3) (0 : Nat)) (8 : Int)) (0 : Int)).fst.g) ((16 : Nat)) ((2 : Nat)) ((Go.Proofs.Ythpcjcdiaifoiaa.G.rapA (Go.Proofs.Ythpcjcdiaifoiaa.G.llW (Go.IntKind.wrap Go.IntKind.i64 ((50 : Int) - x3)) (0 : Int) (0 : Int) (0 : Int)) (Go.Proofs.Ythpcjcdiaifoiaa.G.r_lLine_8 (Go.IntKind.wrap Go.IntKind.i64 ((50 : Int) - x3)) (0 : Int) (0 : Int) (0 : Int)) { n := n10, g := g10, h := h10, off := x5, burns := x6, left := x7, steps := x8 } (Go.Proofs.Ythpcjcdiaifoiaa.G.r_kind_0 (g4 (x0 + Int.toNat x3) (0 : Nat)) (8 : Int)) (0 : Int)).fst.h))]))))
 (.no))
 (.no))
 (.no))
 (.ok (.exit 0, [(.i (x2)), (.b (x5)), (.b (x6)), (.i (x7)), (.i (x8)), (.r (n9) (g9)), (.q (n10) (g10) ((16 : Nat)) ((2 : Nat)) (h10))])))
 (.ok (.exit 0, [(.i (x2)), (.b (x5)), (.b (x6)), (.i (x7)), (.i (x8)), (.r (n9) (g9)), (.q (n10) (g10) ((16 : Nat)) ((2 : Nat)) (h10))]))
noncomputable def y_RlogOrder_8 : Nat → Option Nat := (syOf3 [35, 38, 43, 54, 57, 60, 64, 69] [67] [])
noncomputable def BL_RlogOrder_8 (l : List At) : Tr (Ex × List At) := B_RlogOrder_8 (aN l 0) (aN l 1) (aI l 2) (aI l 3) (aRn l 4) (aRg l 4) (aB l 5) (aB l 6) (aI l 7) (aI l 8) (aRn l 9) (aRg l 9) (aRn l 10) (aRg l 10) (aMh l 10 16 2)
theorem eB_RlogOrder_8 (l : List At) : (exec Try.prog Γ_S9 y_RlogOrder_8 noLoops 100 (loopAt Try.f5 8) ⟨mkV lsh_RlogOrder_8 l, mkH lsh_RlogOrder_8 l⟩).bind (leafL 1 xs_RlogOrder_8) = BL_RlogOrder_8 l := by kernel_rfl
/- by hand: O_RlogOrder_8 (x0 : Nat) (x1 : Nat) (x2 : Int) (x3 : Int) (n4 : Nat) (g4 : Nat → Nat → Int) (x5 : Bool) (x6 : Bool) (x7 : Int) (x8 : Int) (n9 : Nat) (g9 : Nat → Nat → Int) (n10 : Nat) (g10 : Nat → Nat → Int) (h10 : Nat → Nat → Int) : Tr (Ex × List At); OL_RlogOrder_8 (l) := O_RlogOrder_8 (aN l 0) (aN l 1) (aI l 2) (aI l 3) (aRn l 4) (aRg l 4) (aB l 5) (aB l 6) (aI l 7) (aI l 8) (aRn l 9) (aRg l 9) (aRn l 10) (aRg l 10) (aMh l 10 16 2); μ_RlogOrder_8 : List At → Nat; rd_RlogOrder_8 : ∀ l r, (OL_RlogOrder_8 l).val = some r → RoundA BL_RlogOrder_8 OL_RlogOrder_8 μ_RlogOrder_8 l r -/

end Go.Proofs.Ythpcjcdiaifoiaa.G
end

/-
  Write with the power on: the line is there, sure.
-/
section
namespace Go.Proofs.Ythpcjcdiaifoiaa.G
open Go Go.AM Go.Proofs

/-- The line 's' with 'k' words stored; the other lines as in 'M0'. -/
structure WrInv (M0 : Mem) (s : Nat) (w : Nat → Int) (i : Nat) (K : Int) (M : Mem) : Prop where
  on : M.on
  n : M.n = 64
  ok : M.Ok K
  coh : Coh (M.g s) (M.h s)
  now : ∀ c, c < i → M.g s c = w c
  other : ∀ j, j ≠ s → M.g j = M0.g j ∧ M.h j = M0.h j

theorem wr_step {M0 M : Mem} {s i : Nat} {w : Nat → Int} {K : Int} (h : WrInv M0 s w i K M) (hs : s < 64) (hi : i < 8) (hK : K < 1000000) : WrInv M0 s w (i + 1) (K + 1) (M.stM (s : Int) (i : Int) (w i)) := by
  have hb : M.bad (s : Int) (i : Int) = false := bad_of ⟨by omega, by rw [h.n]; omega, by omega, by omega⟩
  have e := stM_on (v := w i) h.on hb
  have es : (s : Int).toNat = s := Int.toNat_natCast s
  have ei : (i : Int).toNat = i := Int.toNat_natCast i
  have eg : (M.stM (s : Int) (i : Int) (w i)).g = updR M.g s (stR (M.g s) i (w i)) := by rw [e, es, ei]; rfl
  have eh : (M.stM (s : Int) (i : Int) (w i)).h = updR M.h s (stH (M.h s) (M.g s 16).toNat (i : Int) (w i)) := by rw [e, es]; rfl
  refine ⟨stM_on' h.on, by rw [stM_n]; exact h.n, stM_ok h.ok hK, ?_, fun c hc => ?_, fun j hj => ?_⟩
  · rw [eg, eh, updR_self, updR_self]
    have := coh_st (w := (i : Int)) (v := w i) h.coh (h.ok.2.2.2.2 s (by rw [h.n]; exact hs)).1.1 ⟨by omega, by omega⟩
    rw [ei] at this
    exact this
  · rw [eg, updR_self]
    unfold stR
    rw [if_neg (by omega)]
    by_cases hci : c = i
    · rw [if_pos hci, hci]
    · rw [if_neg hci]; exact h.now c (by omega)
  · rw [eg, eh, updR_ne hj, updR_ne hj]
    exact h.other j hj

theorem wr_all {M0 : Mem} {s : Nat} {w : Nat → Int} (hs : s < 64) : ∀ (k i : Nat) (M : Mem) (K : Int), WrInv M0 s w i K M → i + k = 8 → K + k ≤ 900000 → (stL w (s : Int) k i M).2 = 0 ∧ WrInv M0 s w 8 (K + k) (stL w (s : Int) k i M).1
  | 0, i, M, K, h, hik, _ => by
    obtain rfl : i = 8 := by omega
    exact ⟨rfl, by show WrInv M0 s w 8 (K + (0 : Nat)) M; rw [show K + ((0 : Nat) : Int) = K by omega]; exact h⟩
  | k + 1, i, M, K, h, hik, hK => by
    have hb : M.bad (s : Int) (i : Int) = false := bad_of ⟨by omega, by rw [h.n]; omega, by omega, by omega⟩
    rw [stL, if_pos (stC_on h.on hb)]
    have := wr_all hs k (i + 1) _ (K + 1) (wr_step h hs (by omega) (by omega)) (by omega) (by omega)
    rw [show K + ((k + 1 : Nat) : Int) = K + 1 + k by omega]
    exact this

theorem feM_idle {m : Mem} {c : Int} {j : Nat} (hr : RowOk (m.g j) (m.h j)) (h : m.g j 16 = 0) : (m.feM c).g j = m.g j ∧ (m.feM c).h j = m.h j := by
  unfold Mem.feM
  cases hb : corB c with
  | true => exact ⟨rfl, rfl⟩
  | false => cases m.po with
    | true => exact ⟨rfl, rfl⟩
    | false =>
      have hc := corB_no hb
      have := hr.2.2.1 (17 + c.toNat) (by omega) (by omega)
      show feG m.n m.g m.h (17 + c.toNat) 0 j = _ ∧ feH m.n m.g m.h (17 + c.toNat) 0 j = _
      unfold feG feH
      rw [if_neg (fun hh => by omega), if_neg (fun hh => by omega)]
      exact ⟨rfl, rfl⟩

theorem wrM_law {M0 : Mem} {s : Nat} {core K : Int} {w : Nat → Int} (hon : M0.on) (hn : M0.n = 64) (hok : M0.Ok K) (hK : K ≤ 800000) (hcoh : Coh (M0.g s) (M0.h s)) (hs : s < 64) (hcore : 0 ≤ core ∧ core < 8) (hcnt : ∀ j, j < 64 → M0.g j 16 = 0) :
    (wrM w M0 core (s : Int)).2 = 0 ∧ (wrM w M0 core (s : Int)).1.on ∧ (wrM w M0 core (s : Int)).1.n = 64 ∧ (wrM w M0 core (s : Int)).1.Ok (K + 11) ∧ (wrM w M0 core (s : Int)).1.g s 16 = 0 ∧
      Coh ((wrM w M0 core (s : Int)).1.g s) ((wrM w M0 core (s : Int)).1.h s) ∧ (∀ c, c < 8 → (wrM w M0 core (s : Int)).1.g s c = w c) ∧ ∀ j, j < 64 → j ≠ s → (wrM w M0 core (s : Int)).1.g j = M0.g j ∧ (wrM w M0 core (s : Int)).1.h j = M0.h j := by
  have es : (s : Int).toNat = s := Int.toNat_natCast s
  have hb0 : M0.bad (s : Int) 7 = false := bad_of ⟨by omega, by rw [hn]; omega, by decide, by decide⟩
  have e0 := stM_on (v := 0) hon hb0
  have inv0 : WrInv M0 s w 0 (K + 1) (M0.stM (s : Int) 7 0) := by
    have eg : (M0.stM (s : Int) 7 0).g = updR M0.g s (stR (M0.g s) 7 0) := by rw [e0, es]; rfl
    have eh : (M0.stM (s : Int) 7 0).h = updR M0.h s (stH (M0.h s) (M0.g s 16).toNat 7 0) := by rw [e0, es]; rfl
    refine ⟨stM_on' hon, by rw [stM_n]; exact hn, stM_ok hok (by omega), ?_, fun c hc => absurd hc (Nat.not_lt_zero _), fun j hj => ?_⟩
    · rw [eg, eh, updR_self, updR_self]
      exact coh_st (w := 7) (v := 0) hcoh (hok.2.2.2.2 s (by rw [hn]; omega)).1.1 ⟨by decide, by decide⟩
    · rw [eg, eh, updR_ne hj, updR_ne hj]; exact ⟨rfl, rfl⟩
  obtain ⟨p2, inv⟩ := wr_all (w := w) (show s < 64 by omega) 8 0 _ (K + 1) inv0 (by omega) (by omega)
  have st0 := stC_on hon hb0
  unfold wrM
  rw [if_neg (fun hh => hh st0), if_neg (fun hh => hh p2)]
  generalize (stL w (s : Int) 8 0 (M0.stM (s : Int) 7 0)).1 = M at *
  have hb1 : M.bad (s : Int) core = false := bad_of ⟨by omega, by rw [inv.n]; omega, hcore.1, hcore.2⟩
  rw [if_neg (fun hh => hh (stC_on inv.on hb1))]
  have e1 := flM_on inv.on hb1
  have o1 : (M.flM core (s : Int)).on := flM_on' inv.on
  have k1 : (M.flM core (s : Int)).Ok (K + 10) := (flM_ok inv.ok).mono (by omega)
  have n1 : (M.flM core (s : Int)).n = 64 := flM_n.trans inv.n
  have g1 : (M.flM core (s : Int)).g = updR M.g s (flR (M.g s) core.toNat) := by rw [e1, es]; rfl
  have h1 : (M.flM core (s : Int)).h = M.h := by rw [e1]; rfl
  generalize M.flM core (s : Int) = M1 at *
  have gs : M1.g s = flR (M.g s) core.toNat := by rw [g1, updR_self]
  have c1 : Coh (M1.g s) (M1.h s) := by rw [gs, h1]; exact coh_fl inv.coh
  have now1 : ∀ c, c < 8 → M1.g s c = w c := fun c hc => by rw [gs, flR_lo (by omega)]; exact inv.now c hc
  have fl1 : M1.g s (17 + core.toNat) = M1.g s 16 := by
    have a : flR (M.g s) core.toNat (17 + core.toNat) = M.g s 16 := if_pos rfl
    have b : flR (M.g s) core.toNat 16 = M.g s 16 := flR_lo (by omega)
    rw [gs, a, b]
  have r1 := (k1.2.2.2.2 s (by rw [n1]; omega)).1
  have e2 := feM_on o1 (corB_of hcore)
  have cod : M1.feC core = 0 := by unfold Mem.feC; rw [corB_of hcore]; exact on_cod o1
  have k2 : (M1.feM core).Ok (K + 11) := (feM_ok k1).mono (by omega)
  refine ⟨cod, feM_on' o1, feM_n.trans n1, k2, ?_⟩
  have oth : ∀ j, j < 64 → j ≠ s → (M1.feM core).g j = M0.g j ∧ (M1.feM core).h j = M0.h j := fun j hj hjs => by
    have a1 : M1.g j = M0.g j := by rw [g1, updR_ne hjs]; exact (inv.other j hjs).1
    have a2 : M1.h j = M0.h j := by rw [h1]; exact (inv.other j hjs).2
    have := feM_idle (c := core) (k1.2.2.2.2 j (by rw [n1]; exact hj)).1 (by rw [a1]; exact hcnt j hj)
    rw [a1, a2] at this
    exact this
  have eg2 : (M1.feM core).g s = if M1.g s 16 > 0 then rowS (M1.g s) (M1.h s) (M1.g s 16).toNat else M1.g s := by
    rw [e2]
    show feG M1.n M1.g M1.h (17 + core.toNat) 0 s = _
    unfold feG
    rw [fl1]
    by_cases hp : M1.g s 16 > 0
    · rw [if_pos ⟨Nat.zero_le _, by omega, hp⟩, if_pos hp]
    · rw [if_neg (fun hh => hp hh.2.2), if_neg hp]
  have eh2 : (M1.feM core).h s = if M1.g s 16 > 0 then hS (M1.h s) (M1.g s 16).toNat else M1.h s := by
    rw [e2]
    show feH M1.n M1.g M1.h (17 + core.toNat) 0 s = _
    unfold feH
    rw [fl1]
    by_cases hp : M1.g s 16 > 0
    · rw [if_pos ⟨Nat.zero_le _, by omega, hp⟩, if_pos hp]
    · rw [if_neg (fun hh => hp hh.2.2), if_neg hp]
  have r16 := r1.1
  by_cases hp : M1.g s 16 > 0
  · rw [if_pos hp] at eg2 eh2
    refine ⟨by rw [eg2, rowS16]; omega, by rw [eg2, eh2]; exact coh_rowS c1 (by omega), fun c hc => by rw [eg2, rowS_now hc]; exact now1 c hc, oth⟩
  · rw [if_neg hp] at eg2 eh2
    exact ⟨by rw [eg2]; omega, by rw [eg2, eh2]; exact c1, fun c hc => by rw [eg2]; exact now1 c hc, oth⟩
end Go.Proofs.Ythpcjcdiaifoiaa.G
end

/-
  Write, whenever the power goes off.
-/
section
namespace Go.Proofs.Ythpcjcdiaifoiaa.G
open Go Go.AM Go.Proofs

/-- The stores of a write: the last word's nought, then the words. -/
def ST (w : Nat → Int) (m : Nat) : Int := if m = 0 then 7 else if m = 1 then 0 else if m % 2 = 0 then ((m / 2 - 1 : Nat) : Int) else w (m / 2 - 1)

theorem ST_w (w : Nat → Int) (k : Nat) : ST w ((k + 1) * 2) = k ∧ ST w ((k + 1) * 2 + 1) = w k := by
  unfold ST
  rw [if_neg (by omega), if_neg (by omega), if_pos (by omega), if_neg (by omega), if_neg (by omega), if_neg (by omega), show (k + 1) * 2 / 2 - 1 = k by omega, show ((k + 1) * 2 + 1) / 2 - 1 = k by omega]
  exact ⟨rfl, rfl⟩

theorem apF_ST {s w : Nat → Int} : ∀ (k : Nat), k ≤ 8 → ∀ c, c < 8 → apF s (ST w) 0 (k + 1) c = if c < k then w c else if c = 7 then 0 else s c
  | 0, _, c, _ => by
    rw [apF_succ]
    show (if c = (ST w ((0 + 0) * 2)).toNat then ST w ((0 + 0) * 2 + 1) else s c) = _
    rw [if_neg (Nat.not_lt_zero c)]
    rfl
  | k + 1, hk, c, hc => by
    rw [apF_succ]
    show (if c = (ST w ((0 + (k + 1)) * 2)).toNat then ST w ((0 + (k + 1)) * 2 + 1) else apF s (ST w) 0 (k + 1) c) = _
    rw [Nat.zero_add, (ST_w w k).1, (ST_w w k).2, Int.toNat_natCast, apF_ST k (by omega) c hc]
    by_cases hck : c = k
    · subst hck
      rw [if_pos rfl, if_pos (Nat.lt_succ_self _)]
    · rw [if_neg hck]
      by_cases hlt : c < k
      · rw [if_pos hlt, if_pos (by omega)]
      · rw [if_neg hlt, if_neg (show ¬ c < k + 1 by omega)]

/-- The line 's' has 'j' of the stores, none of them sure; the other lines are as in 'M0'. -/
structure FzInv (M0 : Mem) (s : Nat) (w : Nat → Int) (j : Nat) (K : Int) (M : Mem) : Prop where
  n : M.n = 64
  ok : M.Ok K
  cnt : M.g s 16 = j
  sur : ∀ c, c < 8 → M.g s (8 + c) = M0.g s (8 + c)
  st : ∀ k, k < j → M.h s (k * 2) = ST w (k * 2) ∧ M.h s (k * 2 + 1) = ST w (k * 2 + 1)
  coh : Coh (M.g s) (M.h s)
  other : ∀ i, i ≠ s → M.g i = M0.g i ∧ M.h i = M0.h i

theorem FzInv.mono {M0 M : Mem} {s j : Nat} {w : Nat → Int} {K K' : Int} (h : FzInv M0 s w j K M) (hK : K ≤ K') : FzInv M0 s w j K' M := ⟨h.n, h.ok.mono hK, h.cnt, h.sur, h.st, h.coh, h.other⟩

theorem FzInv.stp {M0 M : Mem} {s j : Nat} {w : Nat → Int} {K : Int} (h : FzInv M0 s w j K M) : FzInv M0 s w j (K + 1) M.stp := ⟨h.n, stp_ok h.ok, h.cnt, h.sur, h.st, h.coh, h.other⟩

theorem fz_step {M0 M : Mem} {s j : Nat} {w : Nat → Int} {K : Int} {wd v : Int} (h : FzInv M0 s w j K M) (hs : s < 64) (hwd : 0 ≤ wd ∧ wd < 8) (h1 : ST w (j * 2) = wd) (h2 : ST w (j * 2 + 1) = v) (hK : K < 1000000) :
    (M.stC (s : Int) wd = 0 ∧ FzInv M0 s w (j + 1) (K + 1) (M.stM (s : Int) wd v)) ∨ (M.stC (s : Int) wd ≠ 0 ∧ FzInv M0 s w j (K + 1) (M.stM (s : Int) wd v)) := by
  have hb : M.bad (s : Int) wd = false := bad_of ⟨by omega, by rw [h.n]; omega, hwd.1, hwd.2⟩
  have es : (s : Int).toNat = s := Int.toNat_natCast s
  have hok := stM_ok (i := (s : Int)) (w := wd) (v := v) h.ok hK
  unfold Mem.stC
  rw [hb]
  cases hp : M.po with
  | true =>
    have e : M.stM (s : Int) wd v = M.stp := by unfold Mem.stM; rw [hb, hp]; rfl
    rw [e]
    exact .inr ⟨by show M.cod ≠ 0; rw [po_cod4 hp]; decide, h.stp⟩
  | false =>
    have e : M.stM (s : Int) wd v = M.stp.wit (updR M.g s (stR (M.g s) wd.toNat v)) (updR M.h s (stH (M.h s) (M.g s 16).toNat wd v)) := by unfold Mem.stM; rw [hb, hp, es]; rfl
    refine .inl ⟨po_cod hp, ?_⟩
    have hc : (M.g s 16).toNat = j := by rw [h.cnt, Int.toNat_natCast]
    have eg : (M.stM (s : Int) wd v).g = updR M.g s (stR (M.g s) wd.toNat v) := by rw [e]; rfl
    have eh : (M.stM (s : Int) wd v).h = updR M.h s (stH (M.h s) j wd v) := by rw [e, ← hc]; rfl
    refine ⟨by rw [stM_n]; exact h.n, hok, ?_, fun c hc' => ?_, fun k hk => ?_, ?_, fun i hi => ?_⟩
    · rw [eg, updR_self]
      have : stR (M.g s) wd.toNat v 16 = M.g s 16 + 1 := if_pos rfl
      rw [this, h.cnt]; omega
    · rw [eg, updR_self]
      unfold stR
      rw [if_neg (by omega), if_neg (by omega)]
      exact h.sur c hc'
    · rw [eh, updR_self]
      unfold stH
      by_cases hkj : k = j
      · subst hkj
        rw [if_pos rfl, if_neg (by omega), if_pos rfl, h1, h2]
        exact ⟨rfl, rfl⟩
      · rw [if_neg (by omega), if_neg (by omega), if_neg (by omega), if_neg (by omega)]
        exact h.st k (by omega)
    · rw [eg, eh, updR_self, updR_self, ← hc]
      exact coh_st h.coh (h.ok.2.2.2.2 s (by rw [h.n]; exact hs)).1.1 hwd
    · rw [eg, eh, updR_ne hi, updR_ne hi]
      exact h.other i hi

theorem fz_all {M0 : Mem} {s : Nat} {w : Nat → Int} (hs : s < 64) : ∀ (k i : Nat) (M : Mem) (K : Int), FzInv M0 s w (i + 1) K M → i + k = 8 → K + k ≤ 900000 →
    ((stL w (s : Int) k i M).2 = 0 ∧ FzInv M0 s w 9 (K + k) (stL w (s : Int) k i M).1) ∨ ((stL w (s : Int) k i M).2 ≠ 0 ∧ ∃ j, j ≤ 9 ∧ FzInv M0 s w j (K + k) (stL w (s : Int) k i M).1)
  | 0, i, M, K, h, hik, _ => by
    obtain rfl : i = 8 := by omega
    exact .inl ⟨rfl, h.mono (by omega)⟩
  | k + 1, i, M, K, h, hik, hK => by
    rw [stL]
    rcases fz_step (wd := (i : Int)) (v := w i) h hs ⟨by omega, by omega⟩ (ST_w w i).1 (ST_w w i).2 (by omega) with ⟨c, f⟩ | ⟨c, f⟩
    · rw [if_pos c]
      have := fz_all hs k (i + 1) _ (K + 1) f (by omega) (by omega)
      rw [show K + ((k + 1 : Nat) : Int) = K + 1 + k by omega]
      exact this
    · rw [if_neg c]
      exact .inr ⟨c, i + 1, by omega, f.mono (by omega)⟩

/-- What was written whole. -/
structure Whole (M0 : Mem) (s : Nat) (w : Nat → Int) (K : Int) (M : Mem) : Prop where
  n : M.n = 64
  ok : M.Ok K
  cnt : M.g s 16 = 0
  coh : Coh (M.g s) (M.h s)
  now : ∀ c, c < 8 → M.g s c = w c
  other : ∀ i, i < 64 → i ≠ s → M.g i = M0.g i ∧ M.h i = M0.h i

theorem wrM_any {M0 : Mem} {s : Nat} {core K : Int} {w : Nat → Int} (hn : M0.n = 64) (hok : M0.Ok K) (hK : K ≤ 800000) (hcoh : Coh (M0.g s) (M0.h s)) (hs : s < 64) (hcore : 0 ≤ core ∧ core < 8) (hcnt : ∀ j, j < 64 → M0.g j 16 = 0) :
    ((wrM w M0 core (s : Int)).2 = 0 ∧ Whole M0 s w (K + 11) (wrM w M0 core (s : Int)).1) ∨ ((wrM w M0 core (s : Int)).2 ≠ 0 ∧ ∃ j, j ≤ 9 ∧ FzInv M0 s w j (K + 11) (wrM w M0 core (s : Int)).1) := by
  have es : (s : Int).toNat = s := Int.toNat_natCast s
  have inv0 : FzInv M0 s w 0 K M0 := ⟨hn, hok, hcnt s hs, fun _ _ => rfl, fun k hk => absurd hk (Nat.not_lt_zero _), hcoh, fun _ _ => ⟨rfl, rfl⟩⟩
  unfold wrM
  rcases fz_step (wd := 7) (v := 0) inv0 hs ⟨by decide, by decide⟩ rfl rfl (by omega) with ⟨c, f⟩ | ⟨c, f⟩
  · rw [if_neg (fun hh => hh c)]
    rcases fz_all hs 8 0 _ (K + 1) f (by decide) (by omega) with ⟨c2, f2⟩ | ⟨c2, j, hj, f2⟩
    · rw [if_neg (fun hh => hh c2)]
      generalize (stL w (s : Int) 8 0 (M0.stM (s : Int) 7 0)).1 = M at *
      have f2 : FzInv M0 s w 9 (K + 9) M := f2.mono (by omega)
      have hb1 : M.bad (s : Int) core = false := bad_of ⟨by omega, by rw [f2.n]; omega, hcore.1, hcore.2⟩
      have sc : M.stC (s : Int) core = M.cod := by unfold Mem.stC; rw [hb1]; rfl
      rw [sc]
      cases hp : M.po with
      | true =>
        have e1 : M.flM core (s : Int) = M.stp := by unfold Mem.flM; rw [hb1, hp]; rfl
        have c4 : M.cod ≠ 0 := by rw [po_cod4 hp]; decide
        rw [if_pos c4, e1]
        exact .inr ⟨c4, 9, by decide, f2.stp.mono (by omega)⟩
      | false =>
        have c0 : ¬ M.cod ≠ 0 := by rw [po_cod hp]; decide
        rw [if_neg c0]
        have e1 : M.flM core (s : Int) = M.stp.wit (updR M.g s (flR (M.g s) core.toNat)) M.h := by unfold Mem.flM; rw [hb1, hp, es]; rfl
        have k1 : (M.flM core (s : Int)).Ok (K + 10) := (flM_ok f2.ok).mono (by omega)
        have g1 : (M.flM core (s : Int)).g = updR M.g s (flR (M.g s) core.toNat) := by rw [e1]; rfl
        have h1 : (M.flM core (s : Int)).h = M.h := by rw [e1]; rfl
        have n1 : (M.flM core (s : Int)).n = 64 := flM_n.trans f2.n
        generalize M.flM core (s : Int) = M1 at *
        have gs : M1.g s = flR (M.g s) core.toNat := by rw [g1, updR_self]
        have f3 : FzInv M0 s w 9 (K + 10) M1 := ⟨n1, k1, by rw [gs, flR_lo (by omega)]; exact f2.cnt, fun c hc => by rw [gs, flR_lo (by omega)]; exact f2.sur c hc, fun k hk => by rw [h1]; exact f2.st k hk, by rw [gs, h1]; exact coh_fl f2.coh, fun i hi => by rw [g1, h1, updR_ne hi]; exact f2.other i hi⟩
        have fl1 : M1.g s (17 + core.toNat) = 9 := by
          have a : flR (M.g s) core.toNat (17 + core.toNat) = M.g s 16 := if_pos rfl
          rw [gs, a, f2.cnt]; rfl
        have hcb := corB_of hcore
        have fc : M1.feC core = M1.cod := by unfold Mem.feC; rw [hcb]; rfl
        rw [fc]
        cases hp1 : M1.po with
        | true =>
          have e2 : M1.feM core = M1.stp := by unfold Mem.feM; rw [hcb, hp1]; rfl
          rw [e2]
          exact .inr ⟨by show M1.cod ≠ 0; rw [po_cod4 hp1]; decide, 9, by decide, f3.stp.mono (by omega)⟩
        | false =>
          have e2 : M1.feM core = M1.stp.wit (feG M1.n M1.g M1.h (17 + core.toNat) 0) (feH M1.n M1.g M1.h (17 + core.toNat) 0) := by unfold Mem.feM; rw [hcb, hp1]; rfl
          have k2 : (M1.feM core).Ok (K + 11) := (feM_ok k1).mono (by omega)
          have eg2 : (M1.feM core).g s = rowS (M1.g s) (M1.h s) 9 := by
            rw [e2]
            show feG M1.n M1.g M1.h (17 + core.toNat) 0 s = _
            unfold feG
            rw [fl1, if_pos ⟨Nat.zero_le _, by omega, by decide⟩]
            rfl
          have eh2 : (M1.feM core).h s = hS (M1.h s) 9 := by
            rw [e2]
            show feH M1.n M1.g M1.h (17 + core.toNat) 0 s = _
            unfold feH
            rw [fl1, if_pos ⟨Nat.zero_le _, by omega, by decide⟩]
            rfl
          have oth : ∀ i, i < 64 → i ≠ s → (M1.feM core).g i = M0.g i ∧ (M1.feM core).h i = M0.h i := fun i hi his => by
            obtain ⟨a1, a2⟩ := f3.other i his
            have := feM_idle (c := core) (k1.2.2.2.2 i (by rw [n1]; exact hi)).1 (by rw [a1]; exact hcnt i hi)
            rw [a1, a2] at this
            exact this
          refine .inl ⟨po_cod hp1, feM_n.trans n1, k2, by rw [eg2, rowS16, f3.cnt]; rfl, by rw [eg2, eh2]; exact coh_rowS f3.coh (by rw [f3.cnt]; decide), fun c hc => ?_, oth⟩
          rw [eg2, rowS_now hc, f3.coh c hc, f3.cnt]
          have hst : apF (sur (M1.g s)) (M1.h s) 0 9 c = apF (sur (M1.g s)) (ST w) 0 9 c := apF_pt 9 0 _ _ _ _ rfl fun k _ hk => f3.st k (by omega)
          show apF (sur (M1.g s)) (M1.h s) 0 9 c = w c
          rw [hst, apF_ST 8 (by decide) c hc, if_pos hc]
    · rw [if_pos c2]
      exact .inr ⟨c2, j, hj, f2.mono (by omega)⟩
  · rw [if_pos c]
    exact .inr ⟨c, 0, by decide, f.mono (by omega)⟩

/-- Behind a crash the line has some first stores. -/
theorem fz_crash {M0 M : Mem} {s j : Nat} {w : Nat → Int} {K : Int} {q : Nat → Int} {kn : Nat} (h : FzInv M0 s w j K M) (hs : s < 64) : ∃ k, k ≤ j ∧ ∀ c, c < 8 → (M.crM q kn).g s c = apF (sur (M0.g s)) (ST w) 0 k c := by
  have hap : ∀ k, k ≤ j → ∀ c, c < 8 → apF (sur (M.g s)) (M.h s) 0 k c = apF (sur (M0.g s)) (ST w) 0 k c := fun k hk c hc => apF_pt k 0 _ _ _ _ (h.sur c hc) fun i _ hi => h.st i (by omega)
  have hcn : (M.g s 16).toNat = j := by rw [h.cnt, Int.toNat_natCast]
  show ∃ k, k ≤ j ∧ ∀ c, c < 8 → crG M.n M.g M.h q kn 0 s c = _
  unfold crG
  by_cases hp : 0 ≤ s ∧ s < M.n ∧ M.g s 16 > 0
  · rw [if_pos hp]
    have hle : crK q kn (cntU M.g 0 (s - 0)) (M.g s 16) ≤ j := by
      unfold crK
      have := Int.emod_nonneg (kv q kn (cntU M.g 0 (s - 0))) (show M.g s 16 + 1 ≠ 0 by omega)
      have := Int.emod_lt_of_pos (kv q kn (cntU M.g 0 (s - 0))) (show 0 < M.g s 16 + 1 by omega)
      omega
    exact ⟨_, hle, fun c hc => by rw [crR_now hc]; exact hap _ hle c hc⟩
  · rw [if_neg hp]
    have : j = 0 := by
      have := h.n
      have := h.cnt
      omega
    subst this
    exact ⟨0, Nat.le_refl _, fun c hc => by rw [h.coh c hc, hcn]; exact hap 0 (Nat.le_refl _) c hc⟩
end Go.Proofs.Ythpcjcdiaifoiaa.G
end

/-
  The log: which record each line holds.
-/
section
namespace Go.Proofs.Ythpcjcdiaifoiaa.G
open Go Go.AM Go.Proofs

def LineIs (r : Nat → Int) (o : Option (List Int)) : Prop := match o with | none => lrB r = false | some x => lrB r = true ∧ recOf r = x

theorem LineIs.congr {r r' : Nat → Int} {o : Option (List Int)} (h : LineIs r o) (e : ∀ c, c < 8 → r' c = r c) : LineIs r' o := by
  have e0 := e 0 (by decide)
  have e1 := e 1 (by decide)
  have e2 := e 2 (by decide)
  have e3 := e 3 (by decide)
  have e4 := e 4 (by decide)
  have e5 := e 5 (by decide)
  have e6 := e 6 (by decide)
  have e7 := e 7 (by decide)
  have k : lrB r' = lrB r := by unfold lrB; rw [e0, e1, e2, e3, e4, e5, e6, e7]
  have k2 : recOf r' = recOf r := by unfold recOf lr0 lr1 lr2 lr3; rw [e0, e1, e2, e3, e4, e5, e6, e7]
  unfold LineIs at h ⊢
  rw [k, k2]
  exact h

theorem lineIs_zero : LineIs (fun _ => 0) none := by
  show lrB (fun _ => 0) = false
  cases hb : lrB (fun _ => 0) with
  | false => rfl
  | true =>
    have := (lread_of hb).1
    revert this
    decide

theorem lineIs_line {x0 x1 x2 x3 : Int} (hr : rb x0 x1 x2 = true) : LineIs (llW x0 x1 x2 x3) (some [x0, x1, x2, x3]) := by
  obtain ⟨q4, q0, q1, q2, q3⟩ := lread_line (x3 := x3) hr
  refine ⟨q4, ?_⟩
  show [_, _, _, _] = _
  unfold lr0 lr1 lr2 lr3
  show [r_lRead_0 _ _ _ _ _ _ _ _, r_lRead_1 _ _ _ _ _ _ _ _, r_lRead_2 _ _ _ _ _ _ _ _, r_lRead_3 _ _ _ _ _ _ _ _] = _
  rw [show llW x0 x1 x2 x3 0 = r_lLine_0 x0 x1 x2 x3 from rfl, show llW x0 x1 x2 x3 1 = r_lLine_1 x0 x1 x2 x3 from rfl, show llW x0 x1 x2 x3 2 = r_lLine_2 x0 x1 x2 x3 from rfl, show llW x0 x1 x2 x3 3 = r_lLine_3 x0 x1 x2 x3 from rfl, show llW x0 x1 x2 x3 4 = r_lLine_4 x0 x1 x2 x3 from rfl, show llW x0 x1 x2 x3 5 = r_lLine_5 x0 x1 x2 x3 from rfl, show llW x0 x1 x2 x3 6 = r_lLine_6 x0 x1 x2 x3 from rfl, show llW x0 x1 x2 x3 7 = r_lLine_7 x0 x1 x2 x3 from rfl, q0, q1, q2, q3]

structure LogInv (S : Nat → Option (List Int)) (K : Int) (M : Mem) : Prop where
  n : M.n = 64
  ok : M.Ok K
  cnt : ∀ j, j < 64 → M.g j 16 = 0
  coh : ∀ j, j < 64 → Coh (M.g j) (M.h j)
  is : ∀ j, j < 64 → LineIs (M.g j) (S j)

theorem log_new : LogInv (fun _ => none) 0 (newM 64) := ⟨rfl, newM_ok (by decide), fun _ _ => rfl, fun _ _ _ _ => rfl, fun _ _ => lineIs_zero⟩

def slotOk (s : Int) (o : Option (List Int)) : Bool := match o with | none => true | some x => decide (rkey x ≤ s)
def freeS (S : Nat → Option (List Int)) (s : Int) : Nat → Nat → Option Nat
  | 0, _ => none
  | k + 1, i => bif slotOk s (S i) then some i else freeS S s k (i + 1)
def putL (S : Nat → Option (List Int)) (c : Nat) (s : Int) (x : List Int) : (Nat → Option (List Int)) × Int :=
  match freeS S s 4 (2 + 4 * c) with
  | none => (S, 11)
  | some j => (fun i => if i = j then some x else S i, 0)

theorem freeS_in {S : Nat → Option (List Int)} {s : Int} : ∀ {k i j : Nat}, freeS S s k i = some j → i ≤ j ∧ j < i + k ∧ slotOk s (S j) = true
  | 0, i, j, h => by cases h
  | k + 1, i, j, h => by
    rw [freeS] at h
    cases hk : slotOk s (S i) with
    | true =>
      rw [hk] at h
      have : i = j := by simpa using h
      subst this
      exact ⟨Nat.le_refl _, by omega, hk⟩
    | false =>
      rw [hk] at h
      obtain ⟨a, b, c⟩ := freeS_in (k := k) (i := i + 1) h
      exact ⟨by omega, by omega, c⟩

section
variable {S : Nat → Option (List Int)} {K : Int} {M : Mem}

theorem ldC_at (h : LogInv S K M) (ho : M.off = false) {j : Nat} (hj : j < 64) : M.ldC (j : Int) = 0 := by
  unfold Mem.ldC
  rw [decide_eq_false (by omega), decide_eq_false (by rw [h.n]; omega), ho]
  rfl
theorem ln_at (h : LogInv S K M) (ho : M.off = false) {j : Nat} (hj : j < 64) : M.ln (j : Int) = M.g j := by
  funext c
  unfold Mem.ln Mem.ldW
  rw [ldC_at h ho hj, Int.toNat_natCast]
  rfl

theorem frOk_at (h : LogInv S K M) (ho : M.off = false) {j : Nat} (hj : j < 64) (s : Int) : frOk M s (j : Int) = slotOk s (S j) := by
  unfold frOk
  rw [ln_at h ho hj]
  have := h.is j hj
  unfold slotOk
  cases hS : S j with
  | none =>
    rw [hS] at this
    have this : lrB (M.g j) = false := this
    rw [this]; rfl
  | some x =>
    rw [hS] at this
    obtain ⟨a, b⟩ := this
    rw [a]
    show decide (lr0 (M.g j) ≤ s) = decide (rkey x ≤ s)
    rw [← b]
    rfl

theorem frL_at (h : LogInv S K M) (ho : M.off = false) (s : Int) : ∀ (k i : Nat), i + k ≤ 64 → frL M s k (i : Int) = match freeS S s k i with | none => (false, 0, 0) | some j => (true, 0, (j : Int))
  | 0, _, _ => rfl
  | k + 1, i, hi => by
    rw [frL, freeS, ldC_at h ho (by omega), frOk_at h ho (by omega)]
    cases slotOk s (S i) with
    | true => rfl
    | false => exact frL_at h ho s k (i + 1) (by omega)

theorem free_none (h : LogInv S K M) (ho : M.off = false) {s : Int} {c : Nat} (hc : c < 8) (hf : freeS S s 4 (2 + 4 * c) = none) : faC M (c : Int) s = 11 := by
  have e := frL_at h ho s 4 (2 + 4 * c) (by omega)
  rw [hf] at e
  unfold faC coreB
  rw [decide_eq_false (by omega), decide_eq_false (by omega), show (2 + 4 * (c : Int)) = ((2 + 4 * c : Nat) : Int) by omega, e]
  rfl
theorem free_some (h : LogInv S K M) (ho : M.off = false) {s : Int} {c j : Nat} (hc : c < 8) (hf : freeS S s 4 (2 + 4 * c) = some j) : faC M (c : Int) s = 0 ∧ faA M (c : Int) s = (j : Int) := by
  have e := frL_at h ho s 4 (2 + 4 * c) (by omega)
  rw [hf] at e
  have hj := (freeS_in hf).1
  unfold faC faA coreB
  rw [decide_eq_false (by omega), decide_eq_false (by omega), show (2 + 4 * (c : Int)) = ((2 + 4 * c : Nat) : Int) by omega, e]
  refine ⟨?_, rfl⟩
  show (bif ((j : Int) == 0) then (11 : Int) else 0) = 0
  rw [show ((j : Int) == 0) = false by rw [beq_eq_false_iff_ne]; omega]
  rfl

theorem app_law (h : LogInv S K M) (hon : M.on) (hK : K ≤ 800000) {c : Nat} (hc : c < 8) {s x0 x1 x2 x3 : Int} (hr : rb x0 x1 x2 = true) :
    (rapA (llW x0 x1 x2 x3) 0 M (c : Int) s).2 = (putL S c s [x0, x1, x2, x3]).2 ∧ (rapA (llW x0 x1 x2 x3) 0 M (c : Int) s).1.on ∧ LogInv (putL S c s [x0, x1, x2, x3]).1 (K + 11) (rapA (llW x0 x1 x2 x3) 0 M (c : Int) s).1 := by
  unfold rapA putL
  cases hf : freeS S s 4 (2 + 4 * c) with
  | none =>
    rw [free_none h hon.1 hc hf]
    exact ⟨rfl, hon, h.n, h.ok.mono (by omega), h.cnt, h.coh, h.is⟩
  | some j =>
    obtain ⟨f1, f2⟩ := free_some h hon.1 hc hf
    obtain ⟨i1, i2, _⟩ := freeS_in hf
    rw [f1, f2]
    show (wrM (llW x0 x1 x2 x3) M (c : Int) (j : Int)).2 = 0 ∧ (wrM (llW x0 x1 x2 x3) M (c : Int) (j : Int)).1.on ∧ LogInv (fun i => if i = j then some [x0, x1, x2, x3] else S i) (K + 11) (wrM (llW x0 x1 x2 x3) M (c : Int) (j : Int)).1
    obtain ⟨w1, w2, w3, w4, w5, w6, w7, w8⟩ := wrM_law (core := (c : Int)) (w := llW x0 x1 x2 x3) hon h.n h.ok hK (h.coh j (by omega)) (by omega) ⟨by omega, by omega⟩ h.cnt
    refine ⟨w1, w2, w3, w4, fun i hi => ?_, fun i hi => ?_, fun i hi => ?_⟩
    · by_cases hij : i = j
      · rw [hij]; exact w5
      · rw [(w8 i hi hij).1]; exact h.cnt i hi
    · by_cases hij : i = j
      · rw [hij]; exact w6
      · rw [(w8 i hi hij).1, (w8 i hi hij).2]; exact h.coh i hi
    · by_cases hij : i = j
      · subst hij
        show LineIs _ (if i = i then _ else _)
        rw [if_pos rfl]
        exact (lineIs_line hr).congr w7
      · show LineIs _ (if i = j then _ else _)
        rw [if_neg hij, (w8 i hi hij).1]
        exact h.is i hi

theorem scC_at (h : LogInv S K M) (ho : M.off = false) : ∀ (k i : Nat), i + k ≤ 64 → scC M k (i : Int) = 0
  | 0, _, _ => rfl
  | k + 1, i, hi => by
    rw [scC, ldC_at h ho (by omega)]
    exact scC_at h ho k (i + 1) (by omega)
def scS (S : Nat → Option (List Int)) : Nat → Nat → List (List Int)
  | 0, _ => []
  | k + 1, i => match S i with | none => scS S k (i + 1) | some x => x :: scS S k (i + 1)
theorem scR_at (h : LogInv S K M) (ho : M.off = false) : ∀ (k i : Nat), i + k ≤ 64 → scR M k (i : Int) = scS S k i
  | 0, _, _ => rfl
  | k + 1, i, hi => by
    rw [scR, ldC_at h ho (by omega), ln_at h ho (by omega), scS]
    have hk := scR_at h ho k (i + 1) (by omega)
    have := h.is i (by omega)
    cases hS : S i with
    | none =>
      rw [hS] at this
      have this : lrB (M.g i) = false := this
      rw [this]
      exact hk
    | some x =>
      rw [hS] at this
      obtain ⟨a, b⟩ := this
      rw [a, b]
      show x :: scR M k ((i + 1 : Nat) : Int) = x :: scS S k (i + 1)
      rw [hk]
theorem scan_at (h : LogInv S K M) (ho : M.off = false) {k : Nat} (hk : 1 ≤ k) (hk8 : k ≤ 8) : scanC M (k : Int) = 0 ∧ scanL M (k : Int) = isort (scS S (4 * k) 2) ∧ (scR M (4 * (k : Int)).toNat 2) = scS S (4 * k) 2 := by
  have e1 := scC_at h ho (4 * k) 2 (by omega)
  have e2 := scR_at h ho (4 * k) 2 (by omega)
  have e : (4 * (k : Int)).toNat = 4 * k := by omega
  unfold scanC scanL coresB
  rw [decide_eq_false (by omega), decide_eq_false (by omega), e]
  have e1 : scC M (4 * k) 2 = 0 := e1
  have e2 : scR M (4 * k) 2 = scS S (4 * k) 2 := e2
  rw [e1, e2]
  exact ⟨rfl, rfl, rfl⟩
end
end Go.Proofs.Ythpcjcdiaifoiaa.G
end

/-
  The sort of rows of different keys; the loop that appends them, in plain words.
-/
section
namespace Go.Proofs.Ythpcjcdiaifoiaa.G
open Go Go.AM Go.Proofs

/-! ### the sort -/

theorem sinkR_desc {x : List Int} : ∀ {R : List (List Int)}, R.Pairwise (fun a b => rkey a > rkey b) → (∀ y, y ∈ R → rkey y ≠ rkey x) → (sinkR x R).Pairwise (fun a b => rkey a > rkey b)
  | [], _, _ => by simp [sinkR]
  | z :: R, h, hn => by
    rw [sinkR]
    rw [List.pairwise_cons] at h
    have hz := hn z (by simp)
    by_cases hlt : rkey x < rkey z
    · rw [decide_eq_true hlt, cond_true, List.pairwise_cons]
      refine ⟨fun y hy => ?_, sinkR_desc h.2 fun y hy => hn y (by simp [hy])⟩
      rcases sinkR_mem.1 hy with rfl | hy
      · exact hlt
      · exact h.1 y hy
    · rw [decide_eq_false hlt, cond_false, List.pairwise_cons]
      refine ⟨fun y hy => ?_, List.pairwise_cons.2 h⟩
      rcases List.mem_cons.1 hy with rfl | hy
      · omega
      · have := h.1 y hy; omega
theorem isr_desc : ∀ {Q R : List (List Int)}, R.Pairwise (fun a b => rkey a > rkey b) → Q.Pairwise (fun a b => rkey a ≠ rkey b) → (∀ x, x ∈ Q → ∀ y, y ∈ R → rkey y ≠ rkey x) → (isr R Q).Pairwise (fun a b => rkey a > rkey b)
  | [], R, h, _, _ => h
  | x :: Q, R, h, hq, hx => by
    rw [isr]
    rw [List.pairwise_cons] at hq
    refine isr_desc (sinkR_desc h (hx x (by simp))) hq.2 fun z hz y hy => ?_
    rcases sinkR_mem.1 hy with rfl | hy
    · exact hq.1 z hz
    · exact hx z (by simp [hz]) y hy
theorem isort_asc {l : List (List Int)} (h : l.Pairwise (fun a b => rkey a ≠ rkey b)) : (isort l).Pairwise (fun a b => rkey a < rkey b) := by
  unfold isort
  rw [List.pairwise_reverse]
  exact isr_desc List.Pairwise.nil h fun _ _ y hy => by cases hy

/-- Two rising lists of the same members are one. -/
theorem asc_eq : ∀ {l l' : List (List Int)}, l.Pairwise (fun a b => rkey a < rkey b) → l'.Pairwise (fun a b => rkey a < rkey b) → (∀ x, x ∈ l ↔ x ∈ l') → l = l'
  | [], [], _, _, _ => rfl
  | [], y :: l', _, _, h => by have := (h y).2 (by simp); cases this
  | x :: l, [], _, _, h => by have := (h x).1 (by simp); cases this
  | x :: l, y :: l', h1, h2, h => by
    rw [List.pairwise_cons] at h1 h2
    have e : x = y := by
      rcases List.mem_cons.1 ((h x).1 (by simp)) with e | e
      · exact e
      · rcases List.mem_cons.1 ((h y).2 (by simp)) with e' | e'
        · exact e'.symm
        · have a := h1.1 y e'
          have b := h2.1 x e
          omega
    subst e
    rw [asc_eq h1.2 h2.2 fun z => ?_]
    constructor
    · intro hz
      rcases List.mem_cons.1 ((h z).1 (by simp [hz])) with e | e
      · subst e; have := h1.1 z hz; omega
      · exact e
    · intro hz
      rcases List.mem_cons.1 ((h z).2 (by simp [hz])) with e | e
      · subst e; have := h2.1 z hz; omega
      · exact e

theorem scS_mem {S : Nat → Option (List Int)} {x : List Int} : ∀ {k i : Nat}, x ∈ scS S k i ↔ ∃ j, i ≤ j ∧ j < i + k ∧ S j = some x
  | 0, i => by
    simp only [scS, List.not_mem_nil, false_iff]
    rintro ⟨j, h1, h2, _⟩; omega
  | k + 1, i => by
    rw [scS]
    cases hS : S i with
    | none =>
      rw [scS_mem (k := k) (i := i + 1)]
      constructor
      · rintro ⟨j, h1, h2, h3⟩; exact ⟨j, by omega, by omega, h3⟩
      · rintro ⟨j, h1, h2, h3⟩
        have : j ≠ i := fun e => by rw [e, hS] at h3; cases h3
        exact ⟨j, by omega, by omega, h3⟩
    | some y =>
      rw [List.mem_cons, scS_mem (k := k) (i := i + 1)]
      constructor
      · rintro (rfl | ⟨j, h1, h2, h3⟩)
        · exact ⟨i, Nat.le_refl _, by omega, hS⟩
        · exact ⟨j, by omega, by omega, h3⟩
      · rintro ⟨j, h1, h2, h3⟩
        by_cases e : j = i
        · rw [e, hS] at h3; cases h3; exact .inl rfl
        · exact .inr ⟨j, by omega, by omega, h3⟩
theorem scS_apart {S : Nat → Option (List Int)} (h : ∀ j j' x x', j < j' → S j = some x → S j' = some x' → rkey x ≠ rkey x') : ∀ (k i : Nat), (scS S k i).Pairwise (fun a b => rkey a ≠ rkey b)
  | 0, _ => List.Pairwise.nil
  | k + 1, i => by
    rw [scS]
    cases hS : S i with
    | none => exact scS_apart h k (i + 1)
    | some y =>
      rw [List.pairwise_cons]
      refine ⟨fun z hz => ?_, scS_apart h k (i + 1)⟩
      obtain ⟨j, h1, _, h3⟩ := scS_mem.1 hz
      exact h i j y z (by omega) hS h3

/-! ### records of falling numbers, and those of some cores as rows -/

structure OrS (kk : Nat) (i : Nat) (S : Nat → Option (List Int)) (n : Nat) (g : Nat → Nat → Int) : Prop where
  form : ∀ j x, S j = some x → ∃ q : Int, x = [q, 0, 0, 0] ∧ 51 - (i : Int) ≤ q ∧ q ≤ 50
  uniq : ∀ j j' x, S j = some x → S j' = some x → j = j'
  mem : ∀ q : Int, (∃ t, t < n ∧ g t 0 = q) ↔ ∃ j : Nat, 2 ≤ j ∧ j < 2 + 4 * kk ∧ S j = some [q, 0, 0, 0]
  asc : ∀ s t, s < t → t < n → g s 0 < g t 0
  lo : ∀ t, t < n → 51 - (i : Int) ≤ g t 0
  len : n ≤ i

theorem or_new (kk : Nat) (g : Nat → Nat → Int) : OrS kk 0 (fun _ => none) 0 g where
  form := fun j x h => by cases h
  uniq := fun j j' x h _ => by cases h
  mem := fun q => by
    constructor
    · rintro ⟨t, h, _⟩; exact absurd h (Nat.not_lt_zero _)
    · rintro ⟨j, _, _, h⟩; cases h
  asc := fun _ _ _ h => absurd h (Nat.not_lt_zero _)
  lo := fun _ h => absurd h (Nat.not_lt_zero _)
  len := Nat.le_refl _

theorem OrS.keep {kk i n : Nat} {S : Nat → Option (List Int)} {g : Nat → Nat → Int} (h : OrS kk i S n g) : OrS kk (i + 1) S n g :=
  ⟨fun j x e => by obtain ⟨q, a, b, c⟩ := h.form j x e; exact ⟨q, a, by omega, c⟩, h.uniq, h.mem, h.asc, fun t ht => by have := h.lo t ht; omega, by have := h.len; omega⟩

theorem or_put {kk i n p : Nat} {S : Nat → Option (List Int)} {g : Nat → Nat → Int} (h : OrS kk i S n g) (hi : i < 8) (hp : S p = none) (h2 : 2 ≤ p) :
    (p < 2 + 4 * kk → OrS kk (i + 1) (fun j => if j = p then some [50 - (i : Int), 0, 0, 0] else S j) (1 + n) (appG (rowsF [[50 - (i : Int)]]) 1 (fun j c => g (0 + j) c))) ∧
    (¬ p < 2 + 4 * kk → OrS kk (i + 1) (fun j => if j = p then some [50 - (i : Int), 0, 0, 0] else S j) n g) := by
  have form : ∀ j x, (if j = p then some [50 - (i : Int), 0, 0, 0] else S j) = some x → ∃ q : Int, x = [q, 0, 0, 0] ∧ 51 - ((i + 1 : Nat) : Int) ≤ q ∧ q ≤ 50 := fun j x e => by
    by_cases hj : j = p
    · rw [if_pos hj] at e; cases e; exact ⟨_, rfl, by omega, by omega⟩
    · rw [if_neg hj] at e
      obtain ⟨q, a, b, c⟩ := h.form j x e; exact ⟨q, a, by omega, c⟩
  have new : ∀ j, S j ≠ some [50 - (i : Int), 0, 0, 0] := fun j e => by
    obtain ⟨q, a, b, c⟩ := h.form j _ e
    simp only [List.cons.injEq] at a
    omega
  have uniq : ∀ j j' x, (if j = p then some [50 - (i : Int), 0, 0, 0] else S j) = some x → (if j' = p then some [50 - (i : Int), 0, 0, 0] else S j') = some x → j = j' := fun j j' x e e' => by
    by_cases hj : j = p
    · by_cases hj' : j' = p
      · rw [hj, hj']
      · rw [if_pos hj] at e; rw [if_neg hj'] at e'; cases e; exact absurd e' (new j')
    · by_cases hj' : j' = p
      · rw [if_neg hj] at e; rw [if_pos hj'] at e'; cases e'; exact absurd e (new j)
      · rw [if_neg hj] at e; rw [if_neg hj'] at e'; exact h.uniq j j' x e e'
  have r0 : appG (rowsF [[50 - (i : Int)]]) 1 (fun j c => g (0 + j) c) 0 0 = 50 - (i : Int) := rfl
  have rs : ∀ t, appG (rowsF [[50 - (i : Int)]]) 1 (fun j c => g (0 + j) c) (t + 1) 0 = g t 0 := fun t => by
    unfold appG
    rw [if_neg (by omega)]
    show g (0 + (t + 1 - 1)) 0 = g t 0
    rw [Nat.zero_add, Nat.add_sub_cancel]
  refine ⟨fun hin => ⟨form, uniq, fun q => ?_, fun s t hst ht => ?_, fun t ht => ?_, by have := h.len; omega⟩, fun hout => ⟨form, uniq, fun q => ?_, h.asc, fun t ht => by have := h.lo t ht; omega, by have := h.len; omega⟩⟩
  · constructor
    · rintro ⟨t, ht, e⟩
      cases t with
      | zero =>
        rw [r0] at e
        exact ⟨p, h2, hin, by rw [if_pos rfl, e]⟩
      | succ t =>
        rw [rs] at e
        obtain ⟨j, j1, j2, j3⟩ := (h.mem q).1 ⟨t, by omega, e⟩
        exact ⟨j, j1, j2, by rw [if_neg (fun hj => by rw [hj, hp] at j3; cases j3)]; exact j3⟩
    · rintro ⟨j, j1, j2, j3⟩
      by_cases hj : j = p
      · rw [if_pos hj] at j3
        simp only [Option.some.injEq, List.cons.injEq, and_true] at j3
        exact ⟨0, by omega, by rw [r0]; exact j3⟩
      · rw [if_neg hj] at j3
        obtain ⟨t, ht, e⟩ := (h.mem q).2 ⟨j, j1, j2, j3⟩
        exact ⟨t + 1, by omega, by rw [rs]; exact e⟩
  · obtain ⟨t, rfl⟩ : ∃ t', t = t' + 1 := ⟨t - 1, by omega⟩
    rw [rs]
    cases s with
    | zero => rw [r0]; have := h.lo t (by omega); omega
    | succ s => rw [rs]; exact h.asc s t (by omega) (by omega)
  · cases t with
    | zero => rw [r0]; omega
    | succ t => rw [rs]; have := h.lo t (by omega); omega
  · rw [h.mem q]
    constructor
    · rintro ⟨j, j1, j2, j3⟩
      exact ⟨j, j1, j2, by rw [if_neg (fun hj => by rw [hj, hp] at j3; cases j3)]; exact j3⟩
    · rintro ⟨j, j1, j2, j3⟩
      by_cases hj : j = p
      · omega
      · rw [if_neg hj] at j3
        exact ⟨j, j1, j2, j3⟩

/-- What is scanned is what is wanted. -/
theorem or_scan {kk i n : Nat} {S : Nat → Option (List Int)} {g : Nat → Nat → Int} (h : OrS kk i S n g) : isort (scS S (4 * kk) 2) = (List.range n).map (fun t => [g t 0, 0, 0, 0]) := by
  refine asc_eq (isort_asc (scS_apart (fun j j' x x' hj e e' hk => ?_) _ _)) ?_ fun x => ?_
  · obtain ⟨q, rfl, _, _⟩ := h.form j x e
    obtain ⟨q', rfl, _, _⟩ := h.form j' x' e'
    have hk : q = q' := hk
    subst hk
    have := h.uniq j j' _ e e'
    omega
  · rw [List.pairwise_map]
    have := List.pairwise_lt_range (n := n)
    refine List.Pairwise.imp_of_mem (fun {a b} ha hb hab => ?_) this
    exact h.asc a b hab (List.mem_range.1 hb)
  · rw [isort_mem, scS_mem, List.mem_map]
    constructor
    · rintro ⟨j, h1, h2, h3⟩
      obtain ⟨q, rfl, _, _⟩ := h.form j x h3
      obtain ⟨t, ht, e⟩ := (h.mem q).2 ⟨j, h1, by omega, h3⟩
      exact ⟨t, List.mem_range.2 ht, by rw [e]⟩
    · rintro ⟨t, ht, rfl⟩
      obtain ⟨j, h1, h2, h3⟩ := (h.mem (g t 0)).1 ⟨t, List.mem_range.1 ht, rfl⟩
      exact ⟨j, h1, by omega, h3⟩
end Go.Proofs.Ythpcjcdiaifoiaa.G
end

/-
  What functions of the seat compute, printed by a program from the explorer.
-/
section
namespace Go.Proofs.Ythpcjcdiaifoiaa.G
open Go Go.AM Go.Proofs
/-! ### RlogAgain -/

noncomputable def ish_RlogAgain : FSh := ⟨[.v false [.k (.n .i64)], .v false [.k (.n .i64)]], []⟩
noncomputable def osh_RlogAgain : FSh := ⟨[.v false [.k .b]], []⟩
noncomputable def T_RlogAgain (x0 : Int) (x1 : Int) : Tr (List At) :=
 .br 0 (Bool.false)
 (.ok [(.b (Bool.false))])
 (.br 0 (Go.Proofs.Ythpcjcdiaifoiaa.G.ok_kind x0 (8 : Int))
 (.br 0 (Go.Proofs.Ythpcjcdiaifoiaa.G.ok_kind x1 (7 : Int))
 (.br 0 (Go.Proofs.Ythpcjcdiaifoiaa.G.pdec (Go.Proofs.Ythpcjcdiaifoiaa.G.Mem.Ok (880000 : Int) (Go.Proofs.Ythpcjcdiaifoiaa.G.newM (64 : Nat))))
 (.br 38 ((Go.Proofs.Ythpcjcdiaifoiaa.G.rapA (Go.Proofs.Ythpcjcdiaifoiaa.G.llW (1 : Int) (0 : Int) (0 : Int) (0 : Int)) (0 : Int) (Go.Proofs.Ythpcjcdiaifoiaa.G.newM (64 : Nat)) (Go.Proofs.Ythpcjcdiaifoiaa.G.r_kind_0 x0 (8 : Int)) (0 : Int)).snd != (0 : Int))
 (.ok [(.b (Bool.false))])
 (.br 0 (Go.Proofs.Ythpcjcdiaifoiaa.G.pdec (Go.Proofs.Ythpcjcdiaifoiaa.G.Mem.Ok (880000 : Int) (Go.Proofs.Ythpcjcdiaifoiaa.G.rapA (Go.Proofs.Ythpcjcdiaifoiaa.G.llW (1 : Int) (0 : Int) (0 : Int) (0 : Int)) (0 : Int) (Go.Proofs.Ythpcjcdiaifoiaa.G.newM (64 : Nat)) (Go.Proofs.Ythpcjcdiaifoiaa.G.r_kind_0 x0 (8 : Int)) (0 : Int)).fst))
 (.br 38 ((Go.Proofs.Ythpcjcdiaifoiaa.G.rapA (Go.Proofs.Ythpcjcdiaifoiaa.G.llW (2 : Int) (0 : Int) (0 : Int) (0 : Int)) (0 : Int) (Go.Proofs.Ythpcjcdiaifoiaa.G.rapA (Go.Proofs.Ythpcjcdiaifoiaa.G.llW (1 : Int) (0 : Int) (0 : Int) (0 : Int)) (0 : Int) (Go.Proofs.Ythpcjcdiaifoiaa.G.newM (64 : Nat)) (Go.Proofs.Ythpcjcdiaifoiaa.G.r_kind_0 x0 (8 : Int)) (0 : Int)).fst (Go.Proofs.Ythpcjcdiaifoiaa.G.r_kind_0 x0 (8 : Int)) (0 : Int)).snd != (0 : Int))
 (.ok [(.b (Bool.false))])
 (.br 0 (Go.Proofs.Ythpcjcdiaifoiaa.G.pdec (Go.Proofs.Ythpcjcdiaifoiaa.G.Mem.Ok (880000 : Int) (Go.Proofs.Ythpcjcdiaifoiaa.G.rapA (Go.Proofs.Ythpcjcdiaifoiaa.G.llW (2 : Int) (0 : Int) (0 : Int) (0 : Int)) (0 : Int) (Go.Proofs.Ythpcjcdiaifoiaa.G.rapA (Go.Proofs.Ythpcjcdiaifoiaa.G.llW (1 : Int) (0 : Int) (0 : Int) (0 : Int)) (0 : Int) (Go.Proofs.Ythpcjcdiaifoiaa.G.newM (64 : Nat)) (Go.Proofs.Ythpcjcdiaifoiaa.G.r_kind_0 x0 (8 : Int)) (0 : Int)).fst (Go.Proofs.Ythpcjcdiaifoiaa.G.r_kind_0 x0 (8 : Int)) (0 : Int)).fst))
 (.br 38 ((Go.Proofs.Ythpcjcdiaifoiaa.G.rapA (Go.Proofs.Ythpcjcdiaifoiaa.G.llW (3 : Int) (0 : Int) (0 : Int) (0 : Int)) (0 : Int) (Go.Proofs.Ythpcjcdiaifoiaa.G.rapA (Go.Proofs.Ythpcjcdiaifoiaa.G.llW (2 : Int) (0 : Int) (0 : Int) (0 : Int)) (0 : Int) (Go.Proofs.Ythpcjcdiaifoiaa.G.rapA (Go.Proofs.Ythpcjcdiaifoiaa.G.llW (1 : Int) (0 : Int) (0 : Int) (0 : Int)) (0 : Int) (Go.Proofs.Ythpcjcdiaifoiaa.G.newM (64 : Nat)) (Go.Proofs.Ythpcjcdiaifoiaa.G.r_kind_0 x0 (8 : Int)) (0 : Int)).fst (Go.Proofs.Ythpcjcdiaifoiaa.G.r_kind_0 x0 (8 : Int)) (0 : Int)).fst (Go.Proofs.Ythpcjcdiaifoiaa.G.r_kind_0 x0 (8 : Int)) (0 : Int)).snd != (0 : Int))
 (.ok [(.b (Bool.false))])
 (.br 0 (Go.Proofs.Ythpcjcdiaifoiaa.G.pdec (Go.Proofs.Ythpcjcdiaifoiaa.G.Mem.Ok (880000 : Int) (Go.Proofs.Ythpcjcdiaifoiaa.G.rapA (Go.Proofs.Ythpcjcdiaifoiaa.G.llW (3 : Int) (0 : Int) (0 : Int) (0 : Int)) (0 : Int) (Go.Proofs.Ythpcjcdiaifoiaa.G.rapA (Go.Proofs.Ythpcjcdiaifoiaa.G.llW (2 : Int) (0 : Int) (0 : Int) (0 : Int)) (0 : Int) (Go.Proofs.Ythpcjcdiaifoiaa.G.rapA (Go.Proofs.Ythpcjcdiaifoiaa.G.llW (1 : Int) (0 : Int) (0 : Int) (0 : Int)) (0 : Int) (Go.Proofs.Ythpcjcdiaifoiaa.G.newM (64 : Nat)) (Go.Proofs.Ythpcjcdiaifoiaa.G.r_kind_0 x0 (8 : Int)) (0 : Int)).fst (Go.Proofs.Ythpcjcdiaifoiaa.G.r_kind_0 x0 (8 : Int)) (0 : Int)).fst (Go.Proofs.Ythpcjcdiaifoiaa.G.r_kind_0 x0 (8 : Int)) (0 : Int)).fst))
 (.br 38 ((Go.Proofs.Ythpcjcdiaifoiaa.G.rapA (Go.Proofs.Ythpcjcdiaifoiaa.G.llW (4 : Int) (0 : Int) (0 : Int) (0 : Int)) (0 : Int) (Go.Proofs.Ythpcjcdiaifoiaa.G.rapA (Go.Proofs.Ythpcjcdiaifoiaa.G.llW (3 : Int) (0 : Int) (0 : Int) (0 : Int)) (0 : Int) (Go.Proofs.Ythpcjcdiaifoiaa.G.rapA (Go.Proofs.Ythpcjcdiaifoiaa.G.llW (2 : Int) (0 : Int) (0 : Int) (0 : Int)) (0 : Int) (Go.Proofs.Ythpcjcdiaifoiaa.G.rapA (Go.Proofs.Ythpcjcdiaifoiaa.G.llW (1 : Int) (0 : Int) (0 : Int) (0 : Int)) (0 : Int) (Go.Proofs.Ythpcjcdiaifoiaa.G.newM (64 : Nat)) (Go.Proofs.Ythpcjcdiaifoiaa.G.r_kind_0 x0 (8 : Int)) (0 : Int)).fst (Go.Proofs.Ythpcjcdiaifoiaa.G.r_kind_0 x0 (8 : Int)) (0 : Int)).fst (Go.Proofs.Ythpcjcdiaifoiaa.G.r_kind_0 x0 (8 : Int)) (0 : Int)).fst (Go.Proofs.Ythpcjcdiaifoiaa.G.r_kind_0 x0 (8 : Int)) (0 : Int)).snd != (0 : Int))
 (.ok [(.b (Bool.false))])
 (.br 0 (Go.Proofs.Ythpcjcdiaifoiaa.G.pdec (Go.Proofs.Ythpcjcdiaifoiaa.G.Mem.Ok (880000 : Int) (Go.Proofs.Ythpcjcdiaifoiaa.G.rapA (Go.Proofs.Ythpcjcdiaifoiaa.G.llW (4 : Int) (0 : Int) (0 : Int) (0 : Int)) (0 : Int) (Go.Proofs.Ythpcjcdiaifoiaa.G.rapA (Go.Proofs.Ythpcjcdiaifoiaa.G.llW (3 : Int) (0 : Int) (0 : Int) (0 : Int)) (0 : Int) (Go.Proofs.Ythpcjcdiaifoiaa.G.rapA (Go.Proofs.Ythpcjcdiaifoiaa.G.llW (2 : Int) (0 : Int) (0 : Int) (0 : Int)) (0 : Int) (Go.Proofs.Ythpcjcdiaifoiaa.G.rapA (Go.Proofs.Ythpcjcdiaifoiaa.G.llW (1 : Int) (0 : Int) (0 : Int) (0 : Int)) (0 : Int) (Go.Proofs.Ythpcjcdiaifoiaa.G.newM (64 : Nat)) (Go.Proofs.Ythpcjcdiaifoiaa.G.r_kind_0 x0 (8 : Int)) (0 : Int)).fst (Go.Proofs.Ythpcjcdiaifoiaa.G.r_kind_0 x0 (8 : Int)) (0 : Int)).fst (Go.Proofs.Ythpcjcdiaifoiaa.G.r_kind_0 x0 (8 : Int)) (0 : Int)).fst (Go.Proofs.Ythpcjcdiaifoiaa.G.r_kind_0 x0 (8 : Int)) (0 : Int)).fst))
 (.br 0 (Go.Proofs.Ythpcjcdiaifoiaa.G.pdec (List.length (Go.Proofs.Ythpcjcdiaifoiaa.G.scR (Go.Proofs.Ythpcjcdiaifoiaa.G.rapA (Go.Proofs.Ythpcjcdiaifoiaa.G.llW (9 : Int) (0 : Int) (0 : Int) (0 : Int)) (0 : Int) (Go.Proofs.Ythpcjcdiaifoiaa.G.rapA (Go.Proofs.Ythpcjcdiaifoiaa.G.llW (4 : Int) (0 : Int) (0 : Int) (0 : Int)) (0 : Int) (Go.Proofs.Ythpcjcdiaifoiaa.G.rapA (Go.Proofs.Ythpcjcdiaifoiaa.G.llW (3 : Int) (0 : Int) (0 : Int) (0 : Int)) (0 : Int) (Go.Proofs.Ythpcjcdiaifoiaa.G.rapA (Go.Proofs.Ythpcjcdiaifoiaa.G.llW (2 : Int) (0 : Int) (0 : Int) (0 : Int)) (0 : Int) (Go.Proofs.Ythpcjcdiaifoiaa.G.rapA (Go.Proofs.Ythpcjcdiaifoiaa.G.llW (1 : Int) (0 : Int) (0 : Int) (0 : Int)) (0 : Int) (Go.Proofs.Ythpcjcdiaifoiaa.G.newM (64 : Nat)) (Go.Proofs.Ythpcjcdiaifoiaa.G.r_kind_0 x0 (8 : Int)) (0 : Int)).fst (Go.Proofs.Ythpcjcdiaifoiaa.G.r_kind_0 x0 (8 : Int)) (0 : Int)).fst (Go.Proofs.Ythpcjcdiaifoiaa.G.r_kind_0 x0 (8 : Int)) (0 : Int)).fst (Go.Proofs.Ythpcjcdiaifoiaa.G.r_kind_0 x0 (8 : Int)) (0 : Int)).fst (Go.Proofs.Ythpcjcdiaifoiaa.G.r_kind_0 x0 (8 : Int)) (Go.Proofs.Ythpcjcdiaifoiaa.G.r_kind_0 x1 (7 : Int))).fst (32 : Nat) (2 : Int)) < (20 : Nat)))
 (.br 50 (Go.Proofs.Ythpcjcdiaifoiaa.G.r_kind_0 x1 (7 : Int) == (0 : Int))
 (.br 53 ((Go.Proofs.Ythpcjcdiaifoiaa.G.rapA (Go.Proofs.Ythpcjcdiaifoiaa.G.llW (9 : Int) (0 : Int) (0 : Int) (0 : Int)) (0 : Int) (Go.Proofs.Ythpcjcdiaifoiaa.G.rapA (Go.Proofs.Ythpcjcdiaifoiaa.G.llW (4 : Int) (0 : Int) (0 : Int) (0 : Int)) (0 : Int) (Go.Proofs.Ythpcjcdiaifoiaa.G.rapA (Go.Proofs.Ythpcjcdiaifoiaa.G.llW (3 : Int) (0 : Int) (0 : Int) (0 : Int)) (0 : Int) (Go.Proofs.Ythpcjcdiaifoiaa.G.rapA (Go.Proofs.Ythpcjcdiaifoiaa.G.llW (2 : Int) (0 : Int) (0 : Int) (0 : Int)) (0 : Int) (Go.Proofs.Ythpcjcdiaifoiaa.G.rapA (Go.Proofs.Ythpcjcdiaifoiaa.G.llW (1 : Int) (0 : Int) (0 : Int) (0 : Int)) (0 : Int) (Go.Proofs.Ythpcjcdiaifoiaa.G.newM (64 : Nat)) (Go.Proofs.Ythpcjcdiaifoiaa.G.r_kind_0 x0 (8 : Int)) (0 : Int)).fst (Go.Proofs.Ythpcjcdiaifoiaa.G.r_kind_0 x0 (8 : Int)) (0 : Int)).fst (Go.Proofs.Ythpcjcdiaifoiaa.G.r_kind_0 x0 (8 : Int)) (0 : Int)).fst (Go.Proofs.Ythpcjcdiaifoiaa.G.r_kind_0 x0 (8 : Int)) (0 : Int)).fst (Go.Proofs.Ythpcjcdiaifoiaa.G.r_kind_0 x0 (8 : Int)) (Go.Proofs.Ythpcjcdiaifoiaa.G.r_kind_0 x1 (7 : Int))).snd == (11 : Int))
 (.br 57 (Go.Proofs.Ythpcjcdiaifoiaa.G.scanC (Go.Proofs.Ythpcjcdiaifoiaa.G.rapA (Go.Proofs.Ythpcjcdiaifoiaa.G.llW (9 : Int) (0 : Int) (0 : Int) (0 : Int)) (0 : Int) (Go.Proofs.Ythpcjcdiaifoiaa.G.rapA (Go.Proofs.Ythpcjcdiaifoiaa.G.llW (4 : Int) (0 : Int) (0 : Int) (0 : Int)) (0 : Int) (Go.Proofs.Ythpcjcdiaifoiaa.G.rapA (Go.Proofs.Ythpcjcdiaifoiaa.G.llW (3 : Int) (0 : Int) (0 : Int) (0 : Int)) (0 : Int) (Go.Proofs.Ythpcjcdiaifoiaa.G.rapA (Go.Proofs.Ythpcjcdiaifoiaa.G.llW (2 : Int) (0 : Int) (0 : Int) (0 : Int)) (0 : Int) (Go.Proofs.Ythpcjcdiaifoiaa.G.rapA (Go.Proofs.Ythpcjcdiaifoiaa.G.llW (1 : Int) (0 : Int) (0 : Int) (0 : Int)) (0 : Int) (Go.Proofs.Ythpcjcdiaifoiaa.G.newM (64 : Nat)) (Go.Proofs.Ythpcjcdiaifoiaa.G.r_kind_0 x0 (8 : Int)) (0 : Int)).fst (Go.Proofs.Ythpcjcdiaifoiaa.G.r_kind_0 x0 (8 : Int)) (0 : Int)).fst (Go.Proofs.Ythpcjcdiaifoiaa.G.r_kind_0 x0 (8 : Int)) (0 : Int)).fst (Go.Proofs.Ythpcjcdiaifoiaa.G.r_kind_0 x0 (8 : Int)) (0 : Int)).fst (Go.Proofs.Ythpcjcdiaifoiaa.G.r_kind_0 x0 (8 : Int)) (Go.Proofs.Ythpcjcdiaifoiaa.G.r_kind_0 x1 (7 : Int))).fst (8 : Int) == (0 : Int))
 (.ok [(.b ((↑(List.length (Go.Proofs.Ythpcjcdiaifoiaa.G.scanL (Go.Proofs.Ythpcjcdiaifoiaa.G.rapA (Go.Proofs.Ythpcjcdiaifoiaa.G.llW (9 : Int) (0 : Int) (0 : Int) (0 : Int)) (0 : Int) (Go.Proofs.Ythpcjcdiaifoiaa.G.rapA (Go.Proofs.Ythpcjcdiaifoiaa.G.llW (4 : Int) (0 : Int) (0 : Int) (0 : Int)) (0 : Int) (Go.Proofs.Ythpcjcdiaifoiaa.G.rapA (Go.Proofs.Ythpcjcdiaifoiaa.G.llW (3 : Int) (0 : Int) (0 : Int) (0 : Int)) (0 : Int) (Go.Proofs.Ythpcjcdiaifoiaa.G.rapA (Go.Proofs.Ythpcjcdiaifoiaa.G.llW (2 : Int) (0 : Int) (0 : Int) (0 : Int)) (0 : Int) (Go.Proofs.Ythpcjcdiaifoiaa.G.rapA (Go.Proofs.Ythpcjcdiaifoiaa.G.llW (1 : Int) (0 : Int) (0 : Int) (0 : Int)) (0 : Int) (Go.Proofs.Ythpcjcdiaifoiaa.G.newM (64 : Nat)) (Go.Proofs.Ythpcjcdiaifoiaa.G.r_kind_0 x0 (8 : Int)) (0 : Int)).fst (Go.Proofs.Ythpcjcdiaifoiaa.G.r_kind_0 x0 (8 : Int)) (0 : Int)).fst (Go.Proofs.Ythpcjcdiaifoiaa.G.r_kind_0 x0 (8 : Int)) (0 : Int)).fst (Go.Proofs.Ythpcjcdiaifoiaa.G.r_kind_0 x0 (8 : Int)) (0 : Int)).fst (Go.Proofs.Ythpcjcdiaifoiaa.G.r_kind_0 x0 (8 : Int)) (Go.Proofs.Ythpcjcdiaifoiaa.G.r_kind_0 x1 (7 : Int))).fst (8 : Int))) : Int) == (4 : Int)))])
 (.ok [(.b (Bool.false))]))
 (.ok [(.b (Bool.false))]))
 (.br 64 ((Go.Proofs.Ythpcjcdiaifoiaa.G.rapA (Go.Proofs.Ythpcjcdiaifoiaa.G.llW (9 : Int) (0 : Int) (0 : Int) (0 : Int)) (0 : Int) (Go.Proofs.Ythpcjcdiaifoiaa.G.rapA (Go.Proofs.Ythpcjcdiaifoiaa.G.llW (4 : Int) (0 : Int) (0 : Int) (0 : Int)) (0 : Int) (Go.Proofs.Ythpcjcdiaifoiaa.G.rapA (Go.Proofs.Ythpcjcdiaifoiaa.G.llW (3 : Int) (0 : Int) (0 : Int) (0 : Int)) (0 : Int) (Go.Proofs.Ythpcjcdiaifoiaa.G.rapA (Go.Proofs.Ythpcjcdiaifoiaa.G.llW (2 : Int) (0 : Int) (0 : Int) (0 : Int)) (0 : Int) (Go.Proofs.Ythpcjcdiaifoiaa.G.rapA (Go.Proofs.Ythpcjcdiaifoiaa.G.llW (1 : Int) (0 : Int) (0 : Int) (0 : Int)) (0 : Int) (Go.Proofs.Ythpcjcdiaifoiaa.G.newM (64 : Nat)) (Go.Proofs.Ythpcjcdiaifoiaa.G.r_kind_0 x0 (8 : Int)) (0 : Int)).fst (Go.Proofs.Ythpcjcdiaifoiaa.G.r_kind_0 x0 (8 : Int)) (0 : Int)).fst (Go.Proofs.Ythpcjcdiaifoiaa.G.r_kind_0 x0 (8 : Int)) (0 : Int)).fst (Go.Proofs.Ythpcjcdiaifoiaa.G.r_kind_0 x0 (8 : Int)) (0 : Int)).fst (Go.Proofs.Ythpcjcdiaifoiaa.G.r_kind_0 x0 (8 : Int)) (Go.Proofs.Ythpcjcdiaifoiaa.G.r_kind_0 x1 (7 : Int))).snd == (0 : Int))
 (.br 68 (Go.Proofs.Ythpcjcdiaifoiaa.G.scanC (Go.Proofs.Ythpcjcdiaifoiaa.G.rapA (Go.Proofs.Ythpcjcdiaifoiaa.G.llW (9 : Int) (0 : Int) (0 : Int) (0 : Int)) (0 : Int) (Go.Proofs.Ythpcjcdiaifoiaa.G.rapA (Go.Proofs.Ythpcjcdiaifoiaa.G.llW (4 : Int) (0 : Int) (0 : Int) (0 : Int)) (0 : Int) (Go.Proofs.Ythpcjcdiaifoiaa.G.rapA (Go.Proofs.Ythpcjcdiaifoiaa.G.llW (3 : Int) (0 : Int) (0 : Int) (0 : Int)) (0 : Int) (Go.Proofs.Ythpcjcdiaifoiaa.G.rapA (Go.Proofs.Ythpcjcdiaifoiaa.G.llW (2 : Int) (0 : Int) (0 : Int) (0 : Int)) (0 : Int) (Go.Proofs.Ythpcjcdiaifoiaa.G.rapA (Go.Proofs.Ythpcjcdiaifoiaa.G.llW (1 : Int) (0 : Int) (0 : Int) (0 : Int)) (0 : Int) (Go.Proofs.Ythpcjcdiaifoiaa.G.newM (64 : Nat)) (Go.Proofs.Ythpcjcdiaifoiaa.G.r_kind_0 x0 (8 : Int)) (0 : Int)).fst (Go.Proofs.Ythpcjcdiaifoiaa.G.r_kind_0 x0 (8 : Int)) (0 : Int)).fst (Go.Proofs.Ythpcjcdiaifoiaa.G.r_kind_0 x0 (8 : Int)) (0 : Int)).fst (Go.Proofs.Ythpcjcdiaifoiaa.G.r_kind_0 x0 (8 : Int)) (0 : Int)).fst (Go.Proofs.Ythpcjcdiaifoiaa.G.r_kind_0 x0 (8 : Int)) (Go.Proofs.Ythpcjcdiaifoiaa.G.r_kind_0 x1 (7 : Int))).fst (8 : Int) == (0 : Int))
 (.br 73 ((↑(List.length (Go.Proofs.Ythpcjcdiaifoiaa.G.scanL (Go.Proofs.Ythpcjcdiaifoiaa.G.rapA (Go.Proofs.Ythpcjcdiaifoiaa.G.llW (9 : Int) (0 : Int) (0 : Int) (0 : Int)) (0 : Int) (Go.Proofs.Ythpcjcdiaifoiaa.G.rapA (Go.Proofs.Ythpcjcdiaifoiaa.G.llW (4 : Int) (0 : Int) (0 : Int) (0 : Int)) (0 : Int) (Go.Proofs.Ythpcjcdiaifoiaa.G.rapA (Go.Proofs.Ythpcjcdiaifoiaa.G.llW (3 : Int) (0 : Int) (0 : Int) (0 : Int)) (0 : Int) (Go.Proofs.Ythpcjcdiaifoiaa.G.rapA (Go.Proofs.Ythpcjcdiaifoiaa.G.llW (2 : Int) (0 : Int) (0 : Int) (0 : Int)) (0 : Int) (Go.Proofs.Ythpcjcdiaifoiaa.G.rapA (Go.Proofs.Ythpcjcdiaifoiaa.G.llW (1 : Int) (0 : Int) (0 : Int) (0 : Int)) (0 : Int) (Go.Proofs.Ythpcjcdiaifoiaa.G.newM (64 : Nat)) (Go.Proofs.Ythpcjcdiaifoiaa.G.r_kind_0 x0 (8 : Int)) (0 : Int)).fst (Go.Proofs.Ythpcjcdiaifoiaa.G.r_kind_0 x0 (8 : Int)) (0 : Int)).fst (Go.Proofs.Ythpcjcdiaifoiaa.G.r_kind_0 x0 (8 : Int)) (0 : Int)).fst (Go.Proofs.Ythpcjcdiaifoiaa.G.r_kind_0 x0 (8 : Int)) (0 : Int)).fst (Go.Proofs.Ythpcjcdiaifoiaa.G.r_kind_0 x0 (8 : Int)) (Go.Proofs.Ythpcjcdiaifoiaa.G.r_kind_0 x1 (7 : Int))).fst (8 : Int))) : Int) == (4 : Int))
 (.br 75 (Go.AM.within (0 : Int) (List.length (Go.Proofs.Ythpcjcdiaifoiaa.G.scanL (Go.Proofs.Ythpcjcdiaifoiaa.G.rapA (Go.Proofs.Ythpcjcdiaifoiaa.G.llW (9 : Int) (0 : Int) (0 : Int) (0 : Int)) (0 : Int) (Go.Proofs.Ythpcjcdiaifoiaa.G.rapA (Go.Proofs.Ythpcjcdiaifoiaa.G.llW (4 : Int) (0 : Int) (0 : Int) (0 : Int)) (0 : Int) (Go.Proofs.Ythpcjcdiaifoiaa.G.rapA (Go.Proofs.Ythpcjcdiaifoiaa.G.llW (3 : Int) (0 : Int) (0 : Int) (0 : Int)) (0 : Int) (Go.Proofs.Ythpcjcdiaifoiaa.G.rapA (Go.Proofs.Ythpcjcdiaifoiaa.G.llW (2 : Int) (0 : Int) (0 : Int) (0 : Int)) (0 : Int) (Go.Proofs.Ythpcjcdiaifoiaa.G.rapA (Go.Proofs.Ythpcjcdiaifoiaa.G.llW (1 : Int) (0 : Int) (0 : Int) (0 : Int)) (0 : Int) (Go.Proofs.Ythpcjcdiaifoiaa.G.newM (64 : Nat)) (Go.Proofs.Ythpcjcdiaifoiaa.G.r_kind_0 x0 (8 : Int)) (0 : Int)).fst (Go.Proofs.Ythpcjcdiaifoiaa.G.r_kind_0 x0 (8 : Int)) (0 : Int)).fst (Go.Proofs.Ythpcjcdiaifoiaa.G.r_kind_0 x0 (8 : Int)) (0 : Int)).fst (Go.Proofs.Ythpcjcdiaifoiaa.G.r_kind_0 x0 (8 : Int)) (0 : Int)).fst (Go.Proofs.Ythpcjcdiaifoiaa.G.r_kind_0 x0 (8 : Int)) (Go.Proofs.Ythpcjcdiaifoiaa.G.r_kind_0 x1 (7 : Int))).fst (8 : Int))))
 (.br 80 (Go.Proofs.Ythpcjcdiaifoiaa.G.lsF (Go.Proofs.Ythpcjcdiaifoiaa.G.scanL (Go.Proofs.Ythpcjcdiaifoiaa.G.rapA (Go.Proofs.Ythpcjcdiaifoiaa.G.llW (9 : Int) (0 : Int) (0 : Int) (0 : Int)) (0 : Int) (Go.Proofs.Ythpcjcdiaifoiaa.G.rapA (Go.Proofs.Ythpcjcdiaifoiaa.G.llW (4 : Int) (0 : Int) (0 : Int) (0 : Int)) (0 : Int) (Go.Proofs.Ythpcjcdiaifoiaa.G.rapA (Go.Proofs.Ythpcjcdiaifoiaa.G.llW (3 : Int) (0 : Int) (0 : Int) (0 : Int)) (0 : Int) (Go.Proofs.Ythpcjcdiaifoiaa.G.rapA (Go.Proofs.Ythpcjcdiaifoiaa.G.llW (2 : Int) (0 : Int) (0 : Int) (0 : Int)) (0 : Int) (Go.Proofs.Ythpcjcdiaifoiaa.G.rapA (Go.Proofs.Ythpcjcdiaifoiaa.G.llW (1 : Int) (0 : Int) (0 : Int) (0 : Int)) (0 : Int) (Go.Proofs.Ythpcjcdiaifoiaa.G.newM (64 : Nat)) (Go.Proofs.Ythpcjcdiaifoiaa.G.r_kind_0 x0 (8 : Int)) (0 : Int)).fst (Go.Proofs.Ythpcjcdiaifoiaa.G.r_kind_0 x0 (8 : Int)) (0 : Int)).fst (Go.Proofs.Ythpcjcdiaifoiaa.G.r_kind_0 x0 (8 : Int)) (0 : Int)).fst (Go.Proofs.Ythpcjcdiaifoiaa.G.r_kind_0 x0 (8 : Int)) (0 : Int)).fst (Go.Proofs.Ythpcjcdiaifoiaa.G.r_kind_0 x0 (8 : Int)) (Go.Proofs.Ythpcjcdiaifoiaa.G.r_kind_0 x1 (7 : Int))).fst (8 : Int)) (0 : Nat) (0 : Nat) == (2 : Int))
 (.br 82 (Go.AM.within (3 : Int) (List.length (Go.Proofs.Ythpcjcdiaifoiaa.G.scanL (Go.Proofs.Ythpcjcdiaifoiaa.G.rapA (Go.Proofs.Ythpcjcdiaifoiaa.G.llW (9 : Int) (0 : Int) (0 : Int) (0 : Int)) (0 : Int) (Go.Proofs.Ythpcjcdiaifoiaa.G.rapA (Go.Proofs.Ythpcjcdiaifoiaa.G.llW (4 : Int) (0 : Int) (0 : Int) (0 : Int)) (0 : Int) (Go.Proofs.Ythpcjcdiaifoiaa.G.rapA (Go.Proofs.Ythpcjcdiaifoiaa.G.llW (3 : Int) (0 : Int) (0 : Int) (0 : Int)) (0 : Int) (Go.Proofs.Ythpcjcdiaifoiaa.G.rapA (Go.Proofs.Ythpcjcdiaifoiaa.G.llW (2 : Int) (0 : Int) (0 : Int) (0 : Int)) (0 : Int) (Go.Proofs.Ythpcjcdiaifoiaa.G.rapA (Go.Proofs.Ythpcjcdiaifoiaa.G.llW (1 : Int) (0 : Int) (0 : Int) (0 : Int)) (0 : Int) (Go.Proofs.Ythpcjcdiaifoiaa.G.newM (64 : Nat)) (Go.Proofs.Ythpcjcdiaifoiaa.G.r_kind_0 x0 (8 : Int)) (0 : Int)).fst (Go.Proofs.Ythpcjcdiaifoiaa.G.r_kind_0 x0 (8 : Int)) (0 : Int)).fst (Go.Proofs.Ythpcjcdiaifoiaa.G.r_kind_0 x0 (8 : Int)) (0 : Int)).fst (Go.Proofs.Ythpcjcdiaifoiaa.G.r_kind_0 x0 (8 : Int)) (0 : Int)).fst (Go.Proofs.Ythpcjcdiaifoiaa.G.r_kind_0 x0 (8 : Int)) (Go.Proofs.Ythpcjcdiaifoiaa.G.r_kind_0 x1 (7 : Int))).fst (8 : Int))))
 (.ok [(.b (Go.Proofs.Ythpcjcdiaifoiaa.G.lsF (Go.Proofs.Ythpcjcdiaifoiaa.G.scanL (Go.Proofs.Ythpcjcdiaifoiaa.G.rapA (Go.Proofs.Ythpcjcdiaifoiaa.G.llW (9 : Int) (0 : Int) (0 : Int) (0 : Int)) (0 : Int) (Go.Proofs.Ythpcjcdiaifoiaa.G.rapA (Go.Proofs.Ythpcjcdiaifoiaa.G.llW (4 : Int) (0 : Int) (0 : Int) (0 : Int)) (0 : Int) (Go.Proofs.Ythpcjcdiaifoiaa.G.rapA (Go.Proofs.Ythpcjcdiaifoiaa.G.llW (3 : Int) (0 : Int) (0 : Int) (0 : Int)) (0 : Int) (Go.Proofs.Ythpcjcdiaifoiaa.G.rapA (Go.Proofs.Ythpcjcdiaifoiaa.G.llW (2 : Int) (0 : Int) (0 : Int) (0 : Int)) (0 : Int) (Go.Proofs.Ythpcjcdiaifoiaa.G.rapA (Go.Proofs.Ythpcjcdiaifoiaa.G.llW (1 : Int) (0 : Int) (0 : Int) (0 : Int)) (0 : Int) (Go.Proofs.Ythpcjcdiaifoiaa.G.newM (64 : Nat)) (Go.Proofs.Ythpcjcdiaifoiaa.G.r_kind_0 x0 (8 : Int)) (0 : Int)).fst (Go.Proofs.Ythpcjcdiaifoiaa.G.r_kind_0 x0 (8 : Int)) (0 : Int)).fst (Go.Proofs.Ythpcjcdiaifoiaa.G.r_kind_0 x0 (8 : Int)) (0 : Int)).fst (Go.Proofs.Ythpcjcdiaifoiaa.G.r_kind_0 x0 (8 : Int)) (0 : Int)).fst (Go.Proofs.Ythpcjcdiaifoiaa.G.r_kind_0 x0 (8 : Int)) (Go.Proofs.Ythpcjcdiaifoiaa.G.r_kind_0 x1 (7 : Int))).fst (8 : Int)) (3 : Nat) (0 : Nat) == (9 : Int)))])
 (.no))
 (.ok [(.b (Bool.false))]))
 (.no))
 (.ok [(.b (Bool.false))]))
 (.ok [(.b (Bool.false))]))
 (.ok [(.b (Bool.false))])))
 (.no))
 (.no)))
 (.no)))
 (.no)))
 (.no)))
 (.no))
 (.no))
 (.no))
noncomputable def y_RlogAgain : Nat → Option Nat := (syOf3 [38, 50, 53, 57, 64, 68, 73, 75, 80, 82] [] [])
noncomputable def TL_RlogAgain (l : List At) : Tr (List At) := T_RlogAgain (aI l 0) (aI l 1)
theorem e_RlogAgain (l : List At) : (call Try.prog Γ_S9 y_RlogAgain noLoops 200 Try.f4 (mkV ish_RlogAgain l) (mkH ish_RlogAgain l)).bind (leafO ish_RlogAgain.hp.length ⟨[.v false [.k .b]], List.replicate ish_RlogAgain.hp.length .no⟩) = TL_RlogAgain l := by kernel_rfl

end Go.Proofs.Ythpcjcdiaifoiaa.G
end

/-
  The plain law of RlogAgain.
-/
section
namespace Go.Proofs.Ythpcjcdiaifoiaa.G
open Go Go.AM Go.Proofs

theorem kind_ok {x n : Int} (hn : 0 < n) : ok_kind x n = true := by
  unfold ok_kind
  have : (n != 0) = true := by rw [bne_iff_ne]; omega
  rw [this]
  cases decide (x < 0) <;> rfl

theorem kind_lo {x n : Int} (h0 : -9223372036854775808 ≤ x) (h1 : x ≤ 9223372036854775807) (hn : 0 < n) : 0 ≤ r_kind_0 x n ∧ r_kind_0 x n < n := by
  unfold r_kind_0
  have hb : (n != 0) = true := by rw [bne_iff_ne]; omega
  rw [hb]
  by_cases hx : x < 0
  · simp only [hx, decide_true, cond_true]
    rw [wrap_i64 (x := x + 1) (by omega) (by omega), wrap_i64 (by omega) (by omega)]
    exact ⟨Int.tmod_nonneg n (by omega), Int.tmod_lt_of_pos _ hn⟩
  · simp only [hx, decide_false, cond_true, cond_false]
    exact ⟨Int.tmod_nonneg n (by omega), Int.tmod_lt_of_pos _ hn⟩

def agS (c : Nat) : Nat → Nat → Option (List Int)
  | 0 => fun _ => none
  | i + 1 => (putL (agS c i) c 0 [(i : Int) + 1, 0, 0, 0]).1
def agL (c k : Nat) : List (List Int) := isort (scS (putL (agS c 4) c k [9, 0, 0, 0]).1 32 2)
theorem ag_ok : ∀ c, c < 8 → (∀ i, i < 4 → (putL (agS c i) c 0 [(i : Int) + 1, 0, 0, 0]).2 = 0) := by decide
theorem ag_len : ∀ c, c < 8 → ∀ k, k < 7 → (agL c k).length = 4 ∧ (scS (putL (agS c 4) c k [9, 0, 0, 0]).1 32 2).length < 20 := by decide
theorem ag_zero : ∀ c, c < 8 → (putL (agS c 4) c 0 [9, 0, 0, 0]).2 = 11 := by decide
theorem ag_more : ∀ c, c < 8 → ∀ k : Nat, k < 7 → 0 < k → (putL (agS c 4) c k [9, 0, 0, 0]).2 = 0 ∧ lsF (agL c k) 0 0 = 2 ∧ lsF (agL c k) 3 0 = 9 := by decide

theorem vc_RlogAgain (x0 x1 : Int) (h0 : IntKind.min .i64 ≤ x0) (k0 : x0 ≤ IntKind.max .i64) (h1 : IntKind.min .i64 ≤ x1) (k1 : x1 ≤ IntKind.max .i64) :
    (T_RlogAgain x0 x1).sat fun r => r = [.b true] := by
  have hc := kind_lo (x := x0) (n := 8) h0 k0 (by decide)
  have hk := kind_lo (x := x1) (n := 7) h1 k1 (by decide)
  unfold T_RlogAgain
  refine brF rfl (brT (kind_ok (by decide)) (brT (kind_ok (by decide)) ?_))
  obtain ⟨c, ec⟩ : ∃ c : Nat, r_kind_0 x0 8 = (c : Int) := ⟨(r_kind_0 x0 8).toNat, by omega⟩
  obtain ⟨k, ek⟩ : ∃ k : Nat, r_kind_0 x1 7 = (k : Int) := ⟨(r_kind_0 x1 7).toNat, by omega⟩
  rw [ec, ek]
  rw [ec] at hc
  rw [ek] at hk
  have hc8 : c < 8 := by omega
  have hk7 : k < 7 := by omega
  have i0 : LogInv (agS c 0) 0 (newM 64) := log_new
  have o0 := newM_on 64
  have app : ∀ (i : Nat) (x : Int) (M : Mem) (K : Int), i < 4 → (i : Int) + 1 = x → LogInv (agS c i) K M → M.on → K ≤ 800000 → rb x 0 0 = true → (rapA (llW x 0 0 0) 0 M (c : Int) 0).2 = 0 ∧ (rapA (llW x 0 0 0) 0 M (c : Int) 0).1.on ∧ LogInv (agS c (i + 1)) (K + 11) (rapA (llW x 0 0 0) 0 M (c : Int) 0).1 := by
    intro i x M K hi hx hM hon hK hr
    have := app_law (s := 0) (x3 := 0) hM hon hK hc8 hr
    rw [← hx] at this ⊢
    rw [ag_ok c hc8 i hi] at this
    exact this
  refine brT (pdec_yes (i0.ok.mono (by decide))) ?_
  obtain ⟨a1, o1, i1⟩ := app 0 1 _ _ (by decide) rfl i0 o0 (by decide) (by decide)
  generalize hM1 : (rapA (llW 1 0 0 0) 0 (newM 64) (c : Int) 0) = M1 at *
  refine brF (by rw [a1]; rfl) (brT (pdec_yes (i1.ok.mono (by decide))) ?_)
  obtain ⟨a2, o2, i2⟩ := app 1 2 _ _ (by decide) rfl i1 o1 (by decide) (by decide)
  generalize hM2 : (rapA (llW 2 0 0 0) 0 M1.1 (c : Int) 0) = M2 at *
  refine brF (by rw [a2]; rfl) (brT (pdec_yes (i2.ok.mono (by decide))) ?_)
  obtain ⟨a3, o3, i3⟩ := app 2 3 _ _ (by decide) rfl i2 o2 (by decide) (by decide)
  generalize hM3 : (rapA (llW 3 0 0 0) 0 M2.1 (c : Int) 0) = M3 at *
  refine brF (by rw [a3]; rfl) (brT (pdec_yes (i3.ok.mono (by decide))) ?_)
  obtain ⟨a4, o4, i4⟩ := app 3 4 _ _ (by decide) rfl i3 o3 (by decide) (by decide)
  generalize hM4 : (rapA (llW 4 0 0 0) 0 M3.1 (c : Int) 0) = M4 at *
  refine brF (by rw [a4]; rfl) (brT (pdec_yes (i4.ok.mono (by decide))) ?_)
  obtain ⟨a5, o5, i5⟩ := app_law (s := (k : Int)) i4 o4 (by decide) hc8 (x0 := 9) (x1 := 0) (x2 := 0) (x3 := 0) (by decide)
  generalize hM5 : (rapA (llW 9 0 0 0) 0 M4.1 (c : Int) (k : Int)) = M5 at *
  obtain ⟨s1, s2, s3⟩ := scan_at i5 o5.1 (k := 8) (by decide) (by decide)
  have s1 : scanC M5.1 8 = 0 := s1
  have s2 : scanL M5.1 8 = agL c k := s2
  have s3 : scR M5.1 32 2 = scS (putL (agS c 4) c k [9, 0, 0, 0]).1 32 2 := s3
  have hl := ag_len c hc8 k hk7
  refine brT (pdec_yes ?_) ?_
  · first
    | exact Nat.lt_of_eq_of_lt (congrArg _ s3) hl.2
    | (rw [s3]; exact hl.2)
  rw [s1, s2, a5]
  by_cases hz : k = 0
  · subst hz
    refine brT rfl (brT ?_ (brT rfl (Tr.sat_ok.2 ?_)))
    · show ((putL (agS c 4) c 0 [9, 0, 0, 0]).2 == 11) = true
      rw [ag_zero c hc8]; rfl
    · rw [hl.1]; rfl
  · obtain ⟨m1, m2, m3⟩ := ag_more c hc8 k hk7 (by omega)
    refine brF (by rw [beq_eq_false_iff_ne]; omega) (brT ?_ (brT rfl (brT ?_ (brT ?_ (brT ?_ (brT ?_ (Tr.sat_ok.2 ?_)))))))
    · rw [m1]; rfl
    · rw [hl.1]; rfl
    · rw [hl.1]; rfl
    · exact (by rw [m2]; rfl)
    · rw [hl.1]; rfl
    · exact congrArg (fun x => [At.b x]) (by rw [m3]; rfl)
end Go.Proofs.Ythpcjcdiaifoiaa.G
end

/-
  The loop of RlogOrder that appends.
-/
section
namespace Go.Proofs.Ythpcjcdiaifoiaa.G
open Go Go.AM Go.Proofs

abbrev OrQ : Type := Mem × Nat × (Nat → Nat → Int)
noncomputable def orA (x : Int) (i : Nat) (M : Mem) : Mem × Int := rapA (llW (50 - (i : Int)) 0 0 0) 0 M (r_kind_0 x 8) 0
noncomputable def orS (kk : Int) (x : Int) (i : Nat) (q : OrQ) : OrQ :=
  bif (orA x i q.1).2 == 0 && decide (r_kind_0 x 8 < kk) then ((orA x i q.1).1, 1 + q.2.1, appG (rowsF [[50 - (i : Int)]]) 1 (fun j c => q.2.2 (0 + j) c)) else ((orA x i q.1).1, q.2)
noncomputable def orL (kk : Int) (x0 : Nat) (o : Nat → Nat → Int) : Nat → Nat → OrQ → OrQ
  | 0, _, q => q
  | m + 1, i, q => orL kk x0 o m (i + 1) (orS kk (o (x0 + i) 0) i q)

structure OrInv (kk : Int) (i : Nat) (q : OrQ) : Prop where
  rng : 0 ≤ kk ∧ kk ≤ 8
  on : q.1.on
  ex : ∃ S, LogInv S (11 * i) q.1 ∧ OrS kk.toNat i S q.2.1 q.2.2

theorem or_step {kk x : Int} {i : Nat} {q : OrQ} (h : OrInv kk i q) (hi : i < 8) (hx : -9223372036854775808 ≤ x ∧ x ≤ 9223372036854775807) : ((orA x i q.1).2 = 0 ∨ (orA x i q.1).2 = 11) ∧ OrInv kk (i + 1) (orS kk x i q) := by
  obtain ⟨hk, hon, S, hlog, hor⟩ := h
  have hc := kind_lo hx.1 hx.2 (n := 8) (by decide)
  obtain ⟨c, ec⟩ : ∃ c : Nat, r_kind_0 x 8 = (c : Int) := ⟨(r_kind_0 x 8).toNat, by omega⟩
  have hc8 : c < 8 := by omega
  have hr : rb (50 - (i : Int)) 0 0 = true := by
    unfold rb
    exact decide_eq_true ⟨by omega, by omega, by decide, by decide, by decide, by decide⟩
  have law := app_law (s := 0) (x3 := 0) hlog hon (by omega) hc8 hr
  unfold orS orA
  rw [ec]
  unfold putL at law
  cases hf : freeS S 0 4 (2 + 4 * c) with
  | none =>
    rw [hf] at law
    obtain ⟨l1, l2, l3⟩ := law
    have l1 : (rapA (llW (50 - (i : Int)) 0 0 0) 0 q.1 (c : Int) 0).2 = 11 := l1
    rw [l1]
    exact ⟨.inr rfl, hk, l2, S, ⟨l3.n, l3.ok.mono (by omega), l3.cnt, l3.coh, l3.is⟩, hor.keep⟩
  | some p =>
    rw [hf] at law
    obtain ⟨l1, l2, l3⟩ := law
    have l1 : (rapA (llW (50 - (i : Int)) 0 0 0) 0 q.1 (c : Int) 0).2 = 0 := l1
    have l3 : LogInv (fun j => if j = p then some [50 - (i : Int), 0, 0, 0] else S j) (11 * i + 11) (rapA (llW (50 - (i : Int)) 0 0 0) 0 q.1 (c : Int) 0).1 := l3
    rw [l1]
    obtain ⟨f1, f2, f3⟩ := freeS_in hf
    have hp : S p = none := by
      cases hS : S p with
      | none => rfl
      | some y =>
        obtain ⟨q', rfl, a, b⟩ := hor.form p y hS
        rw [hS] at f3
        have f3 : decide (q' ≤ 0) = true := f3
        have := of_decide_eq_true f3
        omega
    obtain ⟨pin, pout⟩ := or_put hor hi hp (by omega)
    have l3' : LogInv (fun j => if j = p then some [50 - (i : Int), 0, 0, 0] else S j) (11 * ((i + 1 : Nat) : Int)) (rapA (llW (50 - (i : Int)) 0 0 0) 0 q.1 (c : Int) 0).1 := ⟨l3.n, l3.ok.mono (by omega), l3.cnt, l3.coh, l3.is⟩
    refine ⟨.inl rfl, ?_⟩
    by_cases hck : (c : Int) < kk
    · rw [decide_eq_true hck]
      exact ⟨hk, l2, _, l3', pin (by omega)⟩
    · rw [decide_eq_false hck]
      exact ⟨hk, l2, _, l3', pout (by omega)⟩
theorem or_all {kk : Int} {x0 : Nat} {o : Nat → Nat → Int} {N : Nat} (ho : ∀ j, j < N → -9223372036854775808 ≤ o (x0 + j) 0 ∧ o (x0 + j) 0 ≤ 9223372036854775807) : ∀ (m i : Nat) (q : OrQ), i + m ≤ N → i + m ≤ 8 → OrInv kk i q → OrInv kk (i + m) (orL kk x0 o m i q)
  | 0, i, q, _, _, h => h
  | m + 1, i, q, hN, h8, h => by
    rw [show i + (m + 1) = (i + 1) + m by omega]
    exact or_all ho m (i + 1) _ (by omega) (by omega) (or_step h (by omega) (ho i (by omega))).2

def OpsIn (x0 x1 : Nat) (g : Nat → Nat → Int) : Prop := ∀ j, j < x1 → -9223372036854775808 ≤ g (x0 + j) 0 ∧ g (x0 + j) 0 ≤ 9223372036854775807
noncomputable def O_RlogOrder_8 (x0 x1 : Nat) (x2 x3 : Int) (_n4 : Nat) (g4 : Nat → Nat → Int) (m : Mem) (n9 : Nat) (g9 : Nat → Nat → Int) : Tr (Ex × List At) :=
  .br 0 (pdec (0 ≤ x3 ∧ x3 ≤ 8 ∧ OrInv x2 x3.toNat (m, n9, g9) ∧ OpsIn x0 x1 g4))
    (.ok (.exit 0, [.i x2, .b (orL x2 x0 g4 (min x1 8 - x3.toNat) x3.toNat (m, n9, g9)).1.off, .b (orL x2 x0 g4 (min x1 8 - x3.toNat) x3.toNat (m, n9, g9)).1.burns, .i (orL x2 x0 g4 (min x1 8 - x3.toNat) x3.toNat (m, n9, g9)).1.left, .i (orL x2 x0 g4 (min x1 8 - x3.toNat) x3.toNat (m, n9, g9)).1.steps,
      .r (orL x2 x0 g4 (min x1 8 - x3.toNat) x3.toNat (m, n9, g9)).2.1 (orL x2 x0 g4 (min x1 8 - x3.toNat) x3.toNat (m, n9, g9)).2.2, .q (orL x2 x0 g4 (min x1 8 - x3.toNat) x3.toNat (m, n9, g9)).1.n (orL x2 x0 g4 (min x1 8 - x3.toNat) x3.toNat (m, n9, g9)).1.g 16 2 (orL x2 x0 g4 (min x1 8 - x3.toNat) x3.toNat (m, n9, g9)).1.h])) .no
noncomputable def OL_RlogOrder_8 (l : List At) : Tr (Ex × List At) := O_RlogOrder_8 (aN l 0) (aN l 1) (aI l 2) (aI l 3) (aRn l 4) (aRg l 4) ⟨aRn l 10, aRg l 10, aMh l 10 16 2, aB l 5, aB l 6, aI l 7, aI l 8⟩ (aRn l 9) (aRg l 9)
def μ_RlogOrder_8 (l : List At) : Nat := ((aN l 1 : Int) - aI l 3).toNat

theorem rd_RlogOrder_8 : ∀ l r, (OL_RlogOrder_8 l).val = some r → RoundS BL_RlogOrder_8 OL_RlogOrder_8 μ_RlogOrder_8 l r := by
  intro l r hh
  unfold OL_RlogOrder_8 at hh
  obtain ⟨hc, h⟩ := guard_val hh
  clear hh
  obtain ⟨c0, c1, inv, ho⟩ := of_pdec hc
  unfold RoundS BL_RlogOrder_8 B_RlogOrder_8 
  generalize hx0 : aN l 0 = x0 at *
  generalize hx1 : aN l 1 = x1 at *
  generalize hx2 : aI l 2 = x2 at *
  generalize hx3 : aI l 3 = x3 at *
  generalize hg4 : aRg l 4 = g4 at *
  generalize hn9 : aRn l 9 = n9 at *
  generalize hg9 : aRg l 9 = g9 at *
  generalize hm : (⟨aRn l 10, aRg l 10, aMh l 10 16 2, aB l 5, aB l 6, aI l 7, aI l 8⟩ : Mem) = m at *
  have stop : min x1 8 - x3.toNat = 0 → (Tr.ok (Ex.exit 0, [At.i x2, At.b (aB l 5), At.b (aB l 6), At.i (aI l 7), At.i (aI l 8), At.r n9 g9, At.q (aRn l 10) (aRg l 10) 16 2 (aMh l 10 16 2)])).sat fun p => (p.1 = .normal ∧ ∃ l2 r', AtsEq p.2 l2 ∧ μ_RlogOrder_8 l2 < μ_RlogOrder_8 l ∧ (OL_RlogOrder_8 l2).val = some r' ∧ r'.1 = r.1 ∧ AtsEq r'.2 r.2) ∨ (p.1 ≠ .normal ∧ r.1 = p.1 ∧ AtsEq p.2 r.2) := by
    intro e
    rw [e, orL] at h
    have hv := val_ok h
    subst hv
    rw [← hm]
    exact out_ (by simp) rfl (AtsEq.refl _)
  refine brD (fun h1 => ?_) (fun h1 => stop (by omega))
  refine brD (fun h2 => ?_) (fun h2 => stop (by omega))
  obtain ⟨i, rfl⟩ := Int.eq_ofNat_of_zero_le c0
  have hin : within (i : Int) x1 = true := by simp only [within, Bool.and_eq_true, decide_eq_true_eq]; omega
  rw [Int.toNat_natCast] at h inv ⊢
  have e1 : min x1 8 - i = (min x1 8 - (i + 1)) + 1 := by omega
  have hw : IntKind.i64.wrap ((i : Int) + 1) = (i : Int) + 1 := wrap_i64 (by omega) (by omega)
  have hw5 : IntKind.i64.wrap (50 - (i : Int)) = 50 - (i : Int) := wrap_i64 (by omega) (by omega)
  have hμ : ((x1 : Int) - ((i : Int) + 1)).toNat < μ_RlogOrder_8 l := by unfold μ_RlogOrder_8; rw [hx1, hx3]; omega
  have hx := ho i (by omega)
  obtain ⟨code, inv'⟩ := or_step inv (by omega) hx
  have hl8 : r_lLine_8 (50 - (i : Int)) 0 0 0 = 0 := by
    rw [s8, show rb (50 - (i : Int)) 0 0 = true from decide_eq_true ⟨by omega, by omega, by decide, by decide, by decide, by decide⟩]
    rfl
  obtain ⟨S0, hlog0, hor0⟩ := inv.ex
  have hlen0 : n9 ≤ i := hor0.len
  rw [e1, orL] at h
  rw [hw, hw5, hl8]
  have hq : 0 ≤ (i : Int) + 1 ∧ (i : Int) + 1 ≤ 8 ∧ OrInv x2 ((i : Int) + 1).toNat (orS x2 (g4 (x0 + i) 0) i (m, n9, g9)) ∧ OpsIn x0 x1 g4 := ⟨by omega, by omega, by rw [show ((i : Int) + 1).toNat = i + 1 by omega]; exact inv', ho⟩
  have e2 : ((i : Int) + 1).toNat = i + 1 := by omega
  have go : ∀ (n' : Nat) (g' : Nat → Nat → Int), orS x2 (g4 (x0 + i) 0) i (m, n9, g9) = ((orA (g4 (x0 + i) 0) i m).1, n', g') →
      (Tr.ok (Ex.normal, [At.n x0, At.n x1, At.i x2, At.i ((i : Int) + 1), At.r (aRn l 4) g4, At.b (orA (g4 (x0 + i) 0) i m).1.off, At.b (orA (g4 (x0 + i) 0) i m).1.burns, At.i (orA (g4 (x0 + i) 0) i m).1.left, At.i (orA (g4 (x0 + i) 0) i m).1.steps, At.r n' g', At.q (orA (g4 (x0 + i) 0) i m).1.n (orA (g4 (x0 + i) 0) i m).1.g 16 2 (orA (g4 (x0 + i) 0) i m).1.h])).sat fun p => (p.1 = .normal ∧ ∃ l2 r', AtsEq p.2 l2 ∧ μ_RlogOrder_8 l2 < μ_RlogOrder_8 l ∧ (OL_RlogOrder_8 l2).val = some r' ∧ r'.1 = r.1 ∧ AtsEq r'.2 r.2) ∨ (p.1 ≠ .normal ∧ r.1 = p.1 ∧ AtsEq p.2 r.2) := by
    intro n' g' he
    rw [he] at h hq
    rw [← e2] at h
    exact on_ _ r (AtsEq.refl _) hμ ((br_t (g := 0) (pdec_yes hq)).trans h) rfl (AtsEq.refl _)
  refine brT hin (brT (kind_ok (by decide)) (brT (pdec_yes (hlog0.ok.mono (by omega))) ?_))
  have hsplit : orS x2 (g4 (x0 + i) 0) i (m, n9, g9) = bif (orA (g4 (x0 + i) 0) i m).2 == 0 && decide (r_kind_0 (g4 (x0 + i) 0) 8 < x2) then ((orA (g4 (x0 + i) 0) i m).1, 1 + n9, appG (rowsF [[50 - (i : Int)]]) 1 (fun j c => g9 (0 + j) c)) else ((orA (g4 (x0 + i) 0) i m).1, n9, g9) := rfl
  have code : (orA (g4 (x0 + i) 0) i m).2 = 0 ∨ (orA (g4 (x0 + i) 0) i m).2 = 11 := code
  rcases code with hz | hz
  · refine brF (by show ((orA (g4 (x0 + i) 0) i m).2 != 0) = false; rw [hz]; rfl) (brT (by show ((orA (g4 (x0 + i) 0) i m).2 == 0) = true; rw [hz]; rfl) (brD (fun hk => ?_) (fun hk => ?_)))
    · rw [hz, decide_eq_true hk] at hsplit
      exact brT (decide_eq_true (by omega)) (go _ _ hsplit)
    · rw [hz, decide_eq_false hk] at hsplit
      exact go _ _ hsplit
  · refine brT (by show ((orA (g4 (x0 + i) 0) i m).2 != 0) = true; rw [hz]; rfl) (brF (by show ((orA (g4 (x0 + i) 0) i m).2 != 11) = false; rw [hz]; rfl) (brF (by show ((orA (g4 (x0 + i) 0) i m).2 == 0) = false; rw [hz]; rfl) ?_))
    rw [hz] at hsplit
    exact go _ _ hsplit
end Go.Proofs.Ythpcjcdiaifoiaa.G
end

/-
  What functions of the seat compute, printed by a program from the explorer.
-/
section
namespace Go.Proofs.Ythpcjcdiaifoiaa.G
open Go Go.AM Go.Proofs
theorem f_RlogOrder_8 : LoopF Try.prog 1 (loopAt Try.f5 8) (loopFn 1 lsh_RlogOrder_8 xs_RlogOrder_8 OL_RlogOrder_8) :=
  loop_sat (sy := y_RlogOrder_8) (fuel := 100) (Lp := noLoops) o_S9 mixed (loopsOK_at (noLoops_ok _) 8) rfl eB_RlogOrder_8 rd_RlogOrder_8
noncomputable def Lp_RlogOrder_8 : Loops := Loops.set noLoops 8 (loopFn 1 lsh_RlogOrder_8 xs_RlogOrder_8 OL_RlogOrder_8)
theorem lk_RlogOrder_8 : LoopsFn Try.prog 1 Lp_RlogOrder_8 Try.f5 := loopsFn_set (noLoops_ok _) (by kernel_rfl) f_RlogOrder_8

/-! ### the loop at 20 of RlogOrder -/

noncomputable def lsh_RlogOrder_20 : FSh := ⟨[.any, .any, .any, .any, .any, .any, .any, .any, .any, .v false [.sw 1 1], .any, .any, .any, .v false [.sw 2 4], .any, .v false [.k (.n .i64)], .any, .any, .any, .any, .any, .any, .any, .any, .any, .any, .any, .any, .any, .any, .any, .any, .any, .any, .any, .any, .any, .any, .any, .any, .any, .any, .any, .any, .any, .any, .any, .any, .any, .any, .any, .any, .any, .any, .any, .any, .any, .any, .any, .any, .any, .any, .any, .any, .any, .any, .any, .any, .any, .any, .any, .any, .any, .any, .any, .any, .any, .any, .any, .any, .any, .any, .any, .any, .any, .any, .any, .any, .any, .any, .any, .any, .any, .any, .any, .any, .any, .any, .any, .any, .any], [.no, .rows [.n .i64] true, .rows [.n .i64, .n .i64, .n .i64, .n .u64] true]⟩
noncomputable def xsh_RlogOrder_20_0 : FSh := ⟨[.any, .any, .any, .any, .any, .any, .any, .any, .any, .any, .any, .any, .any, .any, .any, .any, .any, .any, .any, .any, .any, .any, .any, .any, .any, .any, .any, .any, .any, .any, .any, .any, .any, .any, .any, .any, .any, .any, .any, .any, .any, .any, .any, .any, .any, .any, .any, .any, .any, .any, .any, .any, .any, .any, .any, .any, .any, .any, .any, .any, .any, .any, .any, .any, .any, .any, .any, .any, .any, .any, .any, .any, .any, .any, .any, .any, .any, .any, .any, .any, .any, .any, .any, .any, .any, .any, .any, .any, .any, .any, .any, .any, .any, .any, .any, .any, .any, .any, .any, .any, .any], [.no]⟩
noncomputable def xsh_RlogOrder_20_1 : FSh := ⟨[.any, .any, .any, .any, .v false [.k .b], .any, .any, .any, .any, .any, .any, .any, .any, .any, .any, .any, .any, .any, .any, .any, .any, .any, .any, .any, .any, .any, .any, .any, .any, .any, .any, .any, .any, .any, .any, .any, .any, .any, .any, .any, .any, .any, .any, .any, .any, .any, .any, .any, .any, .any, .any, .any, .any, .any, .any, .any, .any, .any, .any, .any, .any, .any, .any, .any, .any, .any, .any, .any, .any, .any, .any, .any, .any, .any, .any, .any, .any, .any, .any, .any, .any, .any, .any, .any, .any, .any, .any, .any, .any, .any, .any, .any, .any, .any, .any, .any, .any, .any, .any, .any, .any], [.no]⟩
noncomputable def xs_RlogOrder_20 : Exs := fun e => match e with
  | .normal => some lsh_RlogOrder_20
  | .exit n => (match Nat.beq n 2 with | true => some xsh_RlogOrder_20_0 | false => none)
  | .ret => some xsh_RlogOrder_20_1
noncomputable def B_RlogOrder_20 (x0 : Int) (n1 : Nat) (g1 : Nat → Nat → Int) (n2 : Nat) (g2 : Nat → Nat → Int) : Tr (Ex × List At) :=
 .br 88 (Decidable.decide (x0 < (↑n2 : Int)))
 (.br 93 (Go.AM.within x0 n2)
 (.br 98 (Go.AM.within x0 n1)
 (.br 100 (g2 (Int.toNat x0) (0 : Nat) != g1 (Int.toNat x0) (0 : Nat))
 (.ok (.ret, [(.b (Bool.false))]))
 (.ok (.normal, [(.i (Go.IntKind.wrap Go.IntKind.i64 (x0 + (1 : Int)))), (.r (n1) (g1)), (.r (n2) (g2))])))
 (.no))
 (.no))
 (.ok (.exit 2, []))
noncomputable def y_RlogOrder_20 : Nat → Option Nat := (syOf3 [88, 93, 98, 100] [] [])
noncomputable def BL_RlogOrder_20 (l : List At) : Tr (Ex × List At) := B_RlogOrder_20 (aI l 0) (aRn l 1) (aRg l 1) (aRn l 2) (aRg l 2)
theorem eB_RlogOrder_20 (l : List At) : (exec Try.prog Γ_S9 y_RlogOrder_20 Lp_RlogOrder_8 100 (loopAt Try.f5 20) ⟨mkV lsh_RlogOrder_20 l, mkH lsh_RlogOrder_20 l⟩).bind (leafL 1 xs_RlogOrder_20) = BL_RlogOrder_20 l := by kernel_rfl
/- by hand: O_RlogOrder_20 (x0 : Int) (n1 : Nat) (g1 : Nat → Nat → Int) (n2 : Nat) (g2 : Nat → Nat → Int) : Tr (Ex × List At); OL_RlogOrder_20 (l) := O_RlogOrder_20 (aI l 0) (aRn l 1) (aRg l 1) (aRn l 2) (aRg l 2); μ_RlogOrder_20 : List At → Nat; rd_RlogOrder_20 : ∀ l r, (OL_RlogOrder_20 l).val = some r → RoundA BL_RlogOrder_20 OL_RlogOrder_20 μ_RlogOrder_20 l r -/

end Go.Proofs.Ythpcjcdiaifoiaa.G
end

/-
  The loop of RlogOrder that compares.
-/
section
namespace Go.Proofs.Ythpcjcdiaifoiaa.G
open Go Go.AM Go.Proofs

def OrRows (n1 : Nat) (g1 : Nat → Nat → Int) (n2 : Nat) (g2 : Nat → Nat → Int) : Prop := n2 ≤ n1 ∧ n2 ≤ 1000 ∧ ∀ j, j < n2 → g2 j 0 = g1 j 0
noncomputable def O_RlogOrder_20 (x0 : Int) (n1 : Nat) (g1 : Nat → Nat → Int) (n2 : Nat) (g2 : Nat → Nat → Int) : Tr (Ex × List At) :=
  .br 0 (pdec (0 ≤ x0 ∧ OrRows n1 g1 n2 g2)) (.ok (.exit 2, [])) .no
noncomputable def OL_RlogOrder_20 (l : List At) : Tr (Ex × List At) := O_RlogOrder_20 (aI l 0) (aRn l 1) (aRg l 1) (aRn l 2) (aRg l 2)
def μ_RlogOrder_20 (l : List At) : Nat := ((aRn l 2 : Int) - aI l 0).toNat

theorem rd_RlogOrder_20 : ∀ l r, (OL_RlogOrder_20 l).val = some r → RoundS BL_RlogOrder_20 OL_RlogOrder_20 μ_RlogOrder_20 l r := by
  intro l r hh
  unfold OL_RlogOrder_20 at hh
  obtain ⟨hc, h⟩ := guard_val hh
  clear hh
  obtain ⟨c0, c1, c2, c3⟩ := of_pdec hc
  have hv := val_ok h
  subst hv
  unfold RoundS BL_RlogOrder_20 B_RlogOrder_20
  generalize hx0 : aI l 0 = x0 at *
  generalize hn1 : aRn l 1 = n1 at *
  generalize hg1 : aRg l 1 = g1 at *
  generalize hn2 : aRn l 2 = n2 at *
  generalize hg2 : aRg l 2 = g2 at *
  refine brD (fun h1 => ?_) (fun h1 => out_ (by simp) rfl (AtsEq.refl _))
  have hw : IntKind.i64.wrap (x0 + 1) = x0 + 1 := wrap_i64 (by omega) (by omega)
  have hμ : ((n2 : Int) - (x0 + 1)).toNat < μ_RlogOrder_20 l := by unfold μ_RlogOrder_20; rw [hx0, hn2]; omega
  have hq : 0 ≤ x0 + 1 ∧ OrRows n1 g1 n2 g2 := ⟨by omega, c1, c2, c3⟩
  rw [c3 x0.toNat (by omega), hw]
  refine brT ?_ (brT ?_ (brF ?_ ?_))
  · simp only [within, Bool.and_eq_true, decide_eq_true_eq]; omega
  · simp only [within, Bool.and_eq_true, decide_eq_true_eq]; omega
  · simp
  · exact on_ _ (.exit 2, []) (AtsEq.refl _) hμ (br_t (g := 0) (pdec_yes hq)) rfl (AtsEq.refl _)
end Go.Proofs.Ythpcjcdiaifoiaa.G
end

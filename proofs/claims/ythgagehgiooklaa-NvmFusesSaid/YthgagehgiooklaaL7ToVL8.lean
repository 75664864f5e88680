/-
  What functions of the seat compute, printed by a program from the explorer.
-/
import Derived.Test.YthgagehgiooklaaG8ToV1
import Derived.KernelRfl
section
namespace Go.Proofs.Ythgagehgiooklaa.G
open Go Go.AM Go.Proofs
/-! ### the loop at 9 of NvmFuses -/

noncomputable def lsh_NvmFuses_9 : FSh := ⟨[.any, .v false [.sq 0 6], .any, .any, .any, .any, .v false [.p 2 0], .any, .v false [.k (.n .i64)], .v false [.k (.n .i64)], .v false [.k (.n .i64)], .any, .any, .any, .any, .any, .any, .any, .any, .any, .any, .any, .any, .any, .any, .any, .any, .any, .any, .any, .any, .any, .any, .any, .any, .any, .any, .any, .any, .any, .any, .any, .any, .any, .any, .any, .any, .any, .any, .any, .any, .any, .any, .any, .any, .any, .any, .any, .any, .any, .any, .any, .any, .any, .any, .any, .any, .any, .any, .any, .any, .any, .any, .any, .any, .any, .any, .any, .any, .any, .any, .any, .any, .any, .any, .any, .any, .any, .any, .any, .any, .any, .any, .any, .any, .any, .any, .any, .any, .any, .any, .any, .any, .any, .any, .any, .any, .any, .any, .any, .any, .any, .any, .any, .any, .any, .any, .any, .any, .any, .any, .any, .any, .any], [.nrows [.n .i64, .n .i64, .n .i64, .n .i64, .n .u64, .n .i64] 5 [.n .i64] 1 false false, .no, .cells [.sw 3 25, .k .b, .k .b, .k (.n .i64), .k (.n .i64)], .nrows [.n .u64, .n .u64, .n .u64, .n .u64, .n .u64, .n .u64, .n .u64, .n .u64, .n .u64, .n .u64, .n .u64, .n .u64, .n .u64, .n .u64, .n .u64, .n .u64, .n .i64, .n .i64, .n .i64, .n .i64, .n .i64, .n .i64, .n .i64, .n .i64, .n .i64] 16 [.n .i64, .n .u64] 4 false true, .no]⟩
noncomputable def xsh_NvmFuses_9_0 : FSh := ⟨[.any, .any, .any, .any, .any, .any, .v false [.p 2 0], .any, .any, .any, .any, .any, .any, .any, .any, .any, .any, .any, .any, .any, .any, .any, .any, .any, .any, .any, .any, .any, .any, .any, .any, .any, .any, .any, .any, .any, .any, .any, .any, .any, .any, .any, .any, .any, .any, .any, .any, .any, .any, .any, .any, .any, .any, .any, .any, .any, .any, .any, .any, .any, .any, .any, .any, .any, .any, .any, .any, .any, .any, .any, .any, .any, .any, .any, .any, .any, .any, .any, .any, .any, .any, .any, .any, .any, .any, .any, .any, .any, .any, .any, .any, .any, .any, .any, .any, .any, .any, .any, .any, .any, .any, .any, .any, .any, .any, .any, .any, .any, .any, .any, .any, .any, .any, .any, .any, .any, .any, .any, .any, .any, .any, .any, .any, .any], [.no, .no, .cells [.sw 3 25, .k .b, .k .b, .k (.n .i64), .k (.n .i64)], .nrows [.n .u64, .n .u64, .n .u64, .n .u64, .n .u64, .n .u64, .n .u64, .n .u64, .n .u64, .n .u64, .n .u64, .n .u64, .n .u64, .n .u64, .n .u64, .n .u64, .n .i64, .n .i64, .n .i64, .n .i64, .n .i64, .n .i64, .n .i64, .n .i64, .n .i64] 16 [.n .i64, .n .u64] 4 false true, .no]⟩
noncomputable def xsh_NvmFuses_9_1 : FSh := ⟨[.any, .any, .any, .any, .v false [.k .b], .any, .any, .any, .any, .any, .any, .any, .any, .any, .any, .any, .any, .any, .any, .any, .any, .any, .any, .any, .any, .any, .any, .any, .any, .any, .any, .any, .any, .any, .any, .any, .any, .any, .any, .any, .any, .any, .any, .any, .any, .any, .any, .any, .any, .any, .any, .any, .any, .any, .any, .any, .any, .any, .any, .any, .any, .any, .any, .any, .any, .any, .any, .any, .any, .any, .any, .any, .any, .any, .any, .any, .any, .any, .any, .any, .any, .any, .any, .any, .any, .any, .any, .any, .any, .any, .any, .any, .any, .any, .any, .any, .any, .any, .any, .any, .any, .any, .any, .any, .any, .any, .any, .any, .any, .any, .any, .any, .any, .any, .any, .any, .any, .any, .any, .any, .any, .any, .any, .any], [.no, .no]⟩
noncomputable def xs_NvmFuses_9 : Exs := fun e => match e with
  | .normal => some lsh_NvmFuses_9
  | .exit n => (match Nat.beq n 0 with | true => some xsh_NvmFuses_9_0 | false => none)
  | .ret => some xsh_NvmFuses_9_1
noncomputable def B_NvmFuses_9 (x0 : Nat) (x1 : Nat) (x2 : Int) (x3 : Int) (x4 : Int) (n5 : Nat) (g5 : Nat → Nat → Int) (h5 : Nat → Nat → Int) (x6 : Bool) (x7 : Bool) (x8 : Int) (x9 : Int) (n10 : Nat) (g10 : Nat → Nat → Int) (h10 : Nat → Nat → Int) : Tr (Ex × List At) :=
 .br 32 (Decidable.decide (x4 < (↑x1 : Int)))
 (.br 35 (Decidable.decide (x4 < (60 : Int)))
 (.br 40 (Go.AM.within x4 x1)
 (.br 0 (Go.Proofs.Ythgagehgiooklaa.G.ok_kind (g5 (x0 + Int.toNat x4) (0 : Nat)) (3 : Int))
 (.br 44 (Go.Proofs.Ythgagehgiooklaa.G.r_kind_0 (g5 (x0 + Int.toNat x4) (0 : Nat)) (3 : Int) == (0 : Int))
 (.br 49 (Go.AM.within x4 x1)
 (.br 0 (Go.Proofs.Ythgagehgiooklaa.G.ok_kind (g5 (x0 + Int.toNat x4) (2 : Nat)) (64 : Int))
 (.br 55 (Go.AM.within x4 x1)
 (.br 0 (Go.Proofs.Ythgagehgiooklaa.G.ok_kind (g5 (x0 + Int.toNat x4) (3 : Nat)) (8 : Int))
 (.br 61 (Go.AM.within x4 x1)
 (.br 0 (Go.Proofs.Ythgagehgiooklaa.G.pdec (Go.Proofs.Ythgagehgiooklaa.G.Mem.Ok (900000 : Int) { n := n10, g := g10, h := h10, off := x6, burns := x7, left := x8, steps := x9 }))
 (.br 92 (Go.Proofs.Ythgagehgiooklaa.G.Mem.stC { n := n10, g := g10, h := h10, off := x6, burns := x7, left := x8, steps := x9 } (Go.Proofs.Ythgagehgiooklaa.G.r_kind_0 (g5 (x0 + Int.toNat x4) (2 : Nat)) (64 : Int)) (Go.Proofs.Ythgagehgiooklaa.G.r_kind_0 (g5 (x0 + Int.toNat x4) (3 : Nat)) (8 : Int)) == (0 : Int))
 (.br 101 (!(Go.Proofs.Ythgagehgiooklaa.G.Mem.stC { n := n10, g := g10, h := h10, off := x6, burns := x7, left := x8, steps := x9 } (Go.Proofs.Ythgagehgiooklaa.G.r_kind_0 (g5 (x0 + Int.toNat x4) (2 : Nat)) (64 : Int)) (Go.Proofs.Ythgagehgiooklaa.G.r_kind_0 (g5 (x0 + Int.toNat x4) (3 : Nat)) (8 : Int)) == (0 : Int)) == Decidable.decide (x4 < x2))
 (.ok (.ret, [(.b (Bool.false))]))
 (.br 109 (!(!(Go.Proofs.Ythgagehgiooklaa.G.Mem.stM { n := n10, g := g10, h := h10, off := x6, burns := x7, left := x8, steps := x9 } (Go.Proofs.Ythgagehgiooklaa.G.r_kind_0 (g5 (x0 + Int.toNat x4) (2 : Nat)) (64 : Int)) (Go.Proofs.Ythgagehgiooklaa.G.r_kind_0 (g5 (x0 + Int.toNat x4) (3 : Nat)) (8 : Int)) (g5 (x0 + Int.toNat x4) (4 : Nat))).off) == Decidable.decide (x4 < x2))
 (.ok (.ret, [(.b (Bool.false))]))
 (.br 114 ((Go.Proofs.Ythgagehgiooklaa.G.Mem.stM { n := n10, g := g10, h := h10, off := x6, burns := x7, left := x8, steps := x9 } (Go.Proofs.Ythgagehgiooklaa.G.r_kind_0 (g5 (x0 + Int.toNat x4) (2 : Nat)) (64 : Int)) (Go.Proofs.Ythgagehgiooklaa.G.r_kind_0 (g5 (x0 + Int.toNat x4) (3 : Nat)) (8 : Int)) (g5 (x0 + Int.toNat x4) (4 : Nat))).steps != Go.IntKind.wrap Go.IntKind.i64 (x3 + (1 : Int)))
 (.ok (.ret, [(.b (Bool.false))]))
 (.ok (.normal, [(.n (x0)), (.n (x1)), (.i (x2)), (.i (Go.IntKind.wrap Go.IntKind.i64 (x3 + (1 : Int)))), (.i (Go.IntKind.wrap Go.IntKind.i64 (x4 + (1 : Int)))), (.q (n5) (g5) ((5 : Nat)) ((1 : Nat)) (h5)), (.b ((Go.Proofs.Ythgagehgiooklaa.G.Mem.stM { n := n10, g := g10, h := h10, off := x6, burns := x7, left := x8, steps := x9 } (Go.Proofs.Ythgagehgiooklaa.G.r_kind_0 (g5 (x0 + Int.toNat x4) (2 : Nat)) (64 : Int)) (Go.Proofs.Ythgagehgiooklaa.G.r_kind_0 (g5 (x0 + Int.toNat x4) (3 : Nat)) (8 : Int)) (g5 (x0 + Int.toNat x4) (4 : Nat))).off)), (.b ((Go.Proofs.Ythgagehgiooklaa.G.Mem.stM { n := n10, g := g10, h := h10, off := x6, burns := x7, left := x8, steps := x9 } (Go.Proofs.Ythgagehgiooklaa.G.r_kind_0 (g5 (x0 + Int.toNat x4) (2 : Nat)) (64 : Int)) (Go.Proofs.Ythgagehgiooklaa.G.r_kind_0 (g5 (x0 + Int.toNat x4) (3 : Nat)) (8 : Int)) (g5 (x0 + Int.toNat x4) (4 : Nat))).burns)), (.i ((Go.Proofs.Ythgagehgiooklaa.G.Mem.stM { n := n10, g := g10, h := h10, off := x6, burns := x7, left := x8, steps := x9 } (Go.Proofs.Ythgagehgiooklaa.G.r_kind_0 (g5 (x0 + Int.toNat x4) (2 : Nat)) (64 : Int)) (Go.Proofs.Ythgagehgiooklaa.G.r_kind_0 (g5 (x0 + Int.toNat x4) (3 : Nat)) (8 : Int)) (g5 (x0 + Int.toNat x4) (4 : Nat))).left)), (.i ((Go.Proofs.Ythgagehgiooklaa.G.Mem.stM { n := n10, g := g10, h := h10, off := x6, burns := x7, left := x8, steps := x9 } (Go.Proofs.Ythgagehgiooklaa.G.r_kind_0 (g5 (x0 + Int.toNat x4) (2 : Nat)) (64 : Int)) (Go.Proofs.Ythgagehgiooklaa.G.r_kind_0 (g5 (x0 + Int.toNat x4) (3 : Nat)) (8 : Int)) (g5 (x0 + Int.toNat x4) (4 : Nat))).steps)), (.q ((Go.Proofs.Ythgagehgiooklaa.G.Mem.stM { n := n10, g := g10, h := h10, off := x6, burns := x7, left := x8, steps := x9 } (Go.Proofs.Ythgagehgiooklaa.G.r_kind_0 (g5 (x0 + Int.toNat x4) (2 : Nat)) (64 : Int)) (Go.Proofs.Ythgagehgiooklaa.G.r_kind_0 (g5 (x0 + Int.toNat x4) (3 : Nat)) (8 : Int)) (g5 (x0 + Int.toNat x4) (4 : Nat))).n) ((Go.Proofs.Ythgagehgiooklaa.G.Mem.stM { n := n10, g := g10, h := h10, off := x6, burns := x7, left := x8, steps := x9 } (Go.Proofs.Ythgagehgiooklaa.G.r_kind_0 (g5 (x0 + Int.toNat x4) (2 : Nat)) (64 : Int)) (Go.Proofs.Ythgagehgiooklaa.G.r_kind_0 (g5 (x0 + Int.toNat x4) (3 : Nat)) (8 : Int)) (g5 (x0 + Int.toNat x4) (4 : Nat))).g) ((16 : Nat)) ((2 : Nat)) ((Go.Proofs.Ythgagehgiooklaa.G.Mem.stM { n := n10, g := g10, h := h10, off := x6, burns := x7, left := x8, steps := x9 } (Go.Proofs.Ythgagehgiooklaa.G.r_kind_0 (g5 (x0 + Int.toNat x4) (2 : Nat)) (64 : Int)) (Go.Proofs.Ythgagehgiooklaa.G.r_kind_0 (g5 (x0 + Int.toNat x4) (3 : Nat)) (8 : Int)) (g5 (x0 + Int.toNat x4) (4 : Nat))).h))])))))
 (.br 101 (!(Go.Proofs.Ythgagehgiooklaa.G.Mem.stC { n := n10, g := g10, h := h10, off := x6, burns := x7, left := x8, steps := x9 } (Go.Proofs.Ythgagehgiooklaa.G.r_kind_0 (g5 (x0 + Int.toNat x4) (2 : Nat)) (64 : Int)) (Go.Proofs.Ythgagehgiooklaa.G.r_kind_0 (g5 (x0 + Int.toNat x4) (3 : Nat)) (8 : Int)) == (0 : Int)) == Decidable.decide (x4 < x2))
 (.ok (.ret, [(.b (Bool.false))]))
 (.br 109 (!(!(Go.Proofs.Ythgagehgiooklaa.G.Mem.stM { n := n10, g := g10, h := h10, off := x6, burns := x7, left := x8, steps := x9 } (Go.Proofs.Ythgagehgiooklaa.G.r_kind_0 (g5 (x0 + Int.toNat x4) (2 : Nat)) (64 : Int)) (Go.Proofs.Ythgagehgiooklaa.G.r_kind_0 (g5 (x0 + Int.toNat x4) (3 : Nat)) (8 : Int)) (g5 (x0 + Int.toNat x4) (4 : Nat))).off) == Decidable.decide (x4 < x2))
 (.ok (.ret, [(.b (Bool.false))]))
 (.br 114 ((Go.Proofs.Ythgagehgiooklaa.G.Mem.stM { n := n10, g := g10, h := h10, off := x6, burns := x7, left := x8, steps := x9 } (Go.Proofs.Ythgagehgiooklaa.G.r_kind_0 (g5 (x0 + Int.toNat x4) (2 : Nat)) (64 : Int)) (Go.Proofs.Ythgagehgiooklaa.G.r_kind_0 (g5 (x0 + Int.toNat x4) (3 : Nat)) (8 : Int)) (g5 (x0 + Int.toNat x4) (4 : Nat))).steps != x3)
 (.ok (.ret, [(.b (Bool.false))]))
 (.ok (.normal, [(.n (x0)), (.n (x1)), (.i (x2)), (.i (x3)), (.i (Go.IntKind.wrap Go.IntKind.i64 (x4 + (1 : Int)))), (.q (n5) (g5) ((5 : Nat)) ((1 : Nat)) (h5)), (.b ((Go.Proofs.Ythgagehgiooklaa.G.Mem.stM { n := n10, g := g10, h := h10, off := x6, burns := x7, left := x8, steps := x9 } (Go.Proofs.Ythgagehgiooklaa.G.r_kind_0 (g5 (x0 + Int.toNat x4) (2 : Nat)) (64 : Int)) (Go.Proofs.Ythgagehgiooklaa.G.r_kind_0 (g5 (x0 + Int.toNat x4) (3 : Nat)) (8 : Int)) (g5 (x0 + Int.toNat x4) (4 : Nat))).off)), (.b ((Go.Proofs.Ythgagehgiooklaa.G.Mem.stM { n := n10, g := g10, h := h10, off := x6, burns := x7, left := x8, steps := x9 } (Go.Proofs.Ythgagehgiooklaa.G.r_kind_0 (g5 (x0 + Int.toNat x4) (2 : Nat)) (64 : Int)) (Go.Proofs.Ythgagehgiooklaa.G.r_kind_0 (g5 (x0 + Int.toNat x4) (3 : Nat)) (8 : Int)) (g5 (x0 + Int.toNat x4) (4 : Nat))).burns)), (.i ((Go.Proofs.Ythgagehgiooklaa.G.Mem.stM { n := n10, g := g10, h := h10, off := x6, burns := x7, left := x8, steps := x9 } (Go.Proofs.Ythgagehgiooklaa.G.r_kind_0 (g5 (x0 + Int.toNat x4) (2 : Nat)) (64 : Int)) (Go.Proofs.Ythgagehgiooklaa.G.r_kind_0 (g5 (x0 + Int.toNat x4) (3 : Nat)) (8 : Int)) (g5 (x0 + Int.toNat x4) (4 : Nat))).left)), (.i ((Go.Proofs.Ythgagehgiooklaa.G.Mem.stM { n := n10, g := g10, h := h10, off := x6, burns := x7, left := x8, steps := x9 } (Go.Proofs.Ythgagehgiooklaa.G.r_kind_0 (g5 (x0 + Int.toNat x4) (2 : Nat)) (64 : Int)) (Go.Proofs.Ythgagehgiooklaa.G.r_kind_0 (g5 (x0 + Int.toNat x4) (3 : Nat)) (8 : Int)) (g5 (x0 + Int.toNat x4) (4 : Nat))).steps)), (.q ((Go.Proofs.Ythgagehgiooklaa.G.Mem.stM { n := n10, g := g10, h := h10, off := x6, burns := x7, left := x8, steps := x9 } (Go.Proofs.Ythgagehgiooklaa.G.r_kind_0 (g5 (x0 + Int.toNat x4) (2 : Nat)) (64 : Int)) (Go.Proofs.Ythgagehgiooklaa.G.r_kind_0 (g5 (x0 + Int.toNat x4) (3 : Nat)) (8 : Int)) (g5 (x0 + Int.toNat x4) (4 : Nat))).n) ((Go.Proofs.Ythgagehgiooklaa.G.Mem.stM { n := n10, g := g10, h := h10, off := x6, burns := x7, left := x8, steps := x9 } (Go.Proofs.Ythgagehgiooklaa.G.r_kind_0 (g5 (x0 + Int.toNat x4) (2 : Nat)) (64 : Int)) (Go.Proofs.Ythgagehgiooklaa.G.r_kind_0 (g5 (x0 + Int.toNat x4) (3 : Nat)) (8 : Int)) (g5 (x0 + Int.toNat x4) (4 : Nat))).g) ((16 : Nat)) ((2 : Nat)) ((Go.Proofs.Ythgagehgiooklaa.G.Mem.stM { n := n10, g := g10, h := h10, off := x6, burns := x7, left := x8, steps := x9 } (Go.Proofs.Ythgagehgiooklaa.G.r_kind_0 (g5 (x0 + Int.toNat x4) (2 : Nat)) (64 : Int)) (Go.Proofs.Ythgagehgiooklaa.G.r_kind_0 (g5 (x0 + Int.toNat x4) (3 : Nat)) (8 : Int)) (g5 (x0 + Int.toNat x4) (4 : Nat))).h))]))))))
 (.no))
 (.no))
 (.no))
 (.no))
 (.no))
 (.no))
 (.br 65 (Go.Proofs.Ythgagehgiooklaa.G.r_kind_0 (g5 (x0 + Int.toNat x4) (0 : Nat)) (3 : Int) == (1 : Int))
 (.br 70 (Go.AM.within x4 x1)
 (.br 0 (Go.Proofs.Ythgagehgiooklaa.G.ok_kind (g5 (x0 + Int.toNat x4) (1 : Nat)) (8 : Int))
 (.br 76 (Go.AM.within x4 x1)
 (.br 0 (Go.Proofs.Ythgagehgiooklaa.G.ok_kind (g5 (x0 + Int.toNat x4) (2 : Nat)) (64 : Int))
 (.br 0 (Go.Proofs.Ythgagehgiooklaa.G.pdec (Go.Proofs.Ythgagehgiooklaa.G.Mem.Ok (900000 : Int) { n := n10, g := g10, h := h10, off := x6, burns := x7, left := x8, steps := x9 }))
 (.br 92 (Go.Proofs.Ythgagehgiooklaa.G.Mem.stC { n := n10, g := g10, h := h10, off := x6, burns := x7, left := x8, steps := x9 } (Go.Proofs.Ythgagehgiooklaa.G.r_kind_0 (g5 (x0 + Int.toNat x4) (2 : Nat)) (64 : Int)) (Go.Proofs.Ythgagehgiooklaa.G.r_kind_0 (g5 (x0 + Int.toNat x4) (1 : Nat)) (8 : Int)) == (0 : Int))
 (.br 101 (!(Go.Proofs.Ythgagehgiooklaa.G.Mem.stC { n := n10, g := g10, h := h10, off := x6, burns := x7, left := x8, steps := x9 } (Go.Proofs.Ythgagehgiooklaa.G.r_kind_0 (g5 (x0 + Int.toNat x4) (2 : Nat)) (64 : Int)) (Go.Proofs.Ythgagehgiooklaa.G.r_kind_0 (g5 (x0 + Int.toNat x4) (1 : Nat)) (8 : Int)) == (0 : Int)) == Decidable.decide (x4 < x2))
 (.ok (.ret, [(.b (Bool.false))]))
 (.br 109 (!(!(Go.Proofs.Ythgagehgiooklaa.G.Mem.flM { n := n10, g := g10, h := h10, off := x6, burns := x7, left := x8, steps := x9 } (Go.Proofs.Ythgagehgiooklaa.G.r_kind_0 (g5 (x0 + Int.toNat x4) (1 : Nat)) (8 : Int)) (Go.Proofs.Ythgagehgiooklaa.G.r_kind_0 (g5 (x0 + Int.toNat x4) (2 : Nat)) (64 : Int))).off) == Decidable.decide (x4 < x2))
 (.ok (.ret, [(.b (Bool.false))]))
 (.br 114 ((Go.Proofs.Ythgagehgiooklaa.G.Mem.flM { n := n10, g := g10, h := h10, off := x6, burns := x7, left := x8, steps := x9 } (Go.Proofs.Ythgagehgiooklaa.G.r_kind_0 (g5 (x0 + Int.toNat x4) (1 : Nat)) (8 : Int)) (Go.Proofs.Ythgagehgiooklaa.G.r_kind_0 (g5 (x0 + Int.toNat x4) (2 : Nat)) (64 : Int))).steps != Go.IntKind.wrap Go.IntKind.i64 (x3 + (1 : Int)))
 (.ok (.ret, [(.b (Bool.false))]))
 (.ok (.normal, [(.n (x0)), (.n (x1)), (.i (x2)), (.i (Go.IntKind.wrap Go.IntKind.i64 (x3 + (1 : Int)))), (.i (Go.IntKind.wrap Go.IntKind.i64 (x4 + (1 : Int)))), (.q (n5) (g5) ((5 : Nat)) ((1 : Nat)) (h5)), (.b ((Go.Proofs.Ythgagehgiooklaa.G.Mem.flM { n := n10, g := g10, h := h10, off := x6, burns := x7, left := x8, steps := x9 } (Go.Proofs.Ythgagehgiooklaa.G.r_kind_0 (g5 (x0 + Int.toNat x4) (1 : Nat)) (8 : Int)) (Go.Proofs.Ythgagehgiooklaa.G.r_kind_0 (g5 (x0 + Int.toNat x4) (2 : Nat)) (64 : Int))).off)), (.b ((Go.Proofs.Ythgagehgiooklaa.G.Mem.flM { n := n10, g := g10, h := h10, off := x6, burns := x7, left := x8, steps := x9 } (Go.Proofs.Ythgagehgiooklaa.G.r_kind_0 (g5 (x0 + Int.toNat x4) (1 : Nat)) (8 : Int)) (Go.Proofs.Ythgagehgiooklaa.G.r_kind_0 (g5 (x0 + Int.toNat x4) (2 : Nat)) (64 : Int))).burns)), (.i ((Go.Proofs.Ythgagehgiooklaa.G.Mem.flM { n := n10, g := g10, h := h10, off := x6, burns := x7, left := x8, steps := x9 } (Go.Proofs.Ythgagehgiooklaa.G.r_kind_0 (g5 (x0 + Int.toNat x4) (1 : Nat)) (8 : Int)) (Go.Proofs.Ythgagehgiooklaa.G.r_kind_0 (g5 (x0 + Int.toNat x4) (2 : Nat)) (64 : Int))).left)), (.i ((Go.Proofs.Ythgagehgiooklaa.G.Mem.flM { n := n10, g := g10, h := h10, off := x6, burns := x7, left := x8, steps := x9 } (Go.Proofs.Ythgagehgiooklaa.G.r_kind_0 (g5 (x0 + Int.toNat x4) (1 : Nat)) (8 : Int)) (Go.Proofs.Ythgagehgiooklaa.G.r_kind_0 (g5 (x0 + Int.toNat x4) (2 : Nat)) (64 : Int))).steps)), (.q ((Go.Proofs.Ythgagehgiooklaa.G.Mem.flM { n := n10, g := g10, h := h10, off := x6, burns := x7, left := x8, steps := x9 } (Go.Proofs.Ythgagehgiooklaa.G.r_kind_0 (g5 (x0 + Int.toNat x4) (1 : Nat)) (8 : Int)) (Go.Proofs.Ythgagehgiooklaa.G.r_kind_0 (g5 (x0 + Int.toNat x4) (2 : Nat)) (64 : Int))).n) ((Go.Proofs.Ythgagehgiooklaa.G.Mem.flM { n := n10, g := g10, h := h10, off := x6, burns := x7, left := x8, steps := x9 } (Go.Proofs.Ythgagehgiooklaa.G.r_kind_0 (g5 (x0 + Int.toNat x4) (1 : Nat)) (8 : Int)) (Go.Proofs.Ythgagehgiooklaa.G.r_kind_0 (g5 (x0 + Int.toNat x4) (2 : Nat)) (64 : Int))).g) ((16 : Nat)) ((2 : Nat)) ((Go.Proofs.Ythgagehgiooklaa.G.Mem.flM { n := n10, g := g10, h := h10, off := x6, burns := x7, left := x8, steps := x9 } (Go.Proofs.Ythgagehgiooklaa.G.r_kind_0 (g5 (x0 + Int.toNat x4) (1 : Nat)) (8 : Int)) (Go.Proofs.Ythgagehgiooklaa.G.r_kind_0 (g5 (x0 + Int.toNat x4) (2 : Nat)) (64 : Int))).h))])))))
 (.br 101 (!(Go.Proofs.Ythgagehgiooklaa.G.Mem.stC { n := n10, g := g10, h := h10, off := x6, burns := x7, left := x8, steps := x9 } (Go.Proofs.Ythgagehgiooklaa.G.r_kind_0 (g5 (x0 + Int.toNat x4) (2 : Nat)) (64 : Int)) (Go.Proofs.Ythgagehgiooklaa.G.r_kind_0 (g5 (x0 + Int.toNat x4) (1 : Nat)) (8 : Int)) == (0 : Int)) == Decidable.decide (x4 < x2))
 (.ok (.ret, [(.b (Bool.false))]))
 (.br 109 (!(!(Go.Proofs.Ythgagehgiooklaa.G.Mem.flM { n := n10, g := g10, h := h10, off := x6, burns := x7, left := x8, steps := x9 } (Go.Proofs.Ythgagehgiooklaa.G.r_kind_0 (g5 (x0 + Int.toNat x4) (1 : Nat)) (8 : Int)) (Go.Proofs.Ythgagehgiooklaa.G.r_kind_0 (g5 (x0 + Int.toNat x4) (2 : Nat)) (64 : Int))).off) == Decidable.decide (x4 < x2))
 (.ok (.ret, [(.b (Bool.false))]))
 (.br 114 ((Go.Proofs.Ythgagehgiooklaa.G.Mem.flM { n := n10, g := g10, h := h10, off := x6, burns := x7, left := x8, steps := x9 } (Go.Proofs.Ythgagehgiooklaa.G.r_kind_0 (g5 (x0 + Int.toNat x4) (1 : Nat)) (8 : Int)) (Go.Proofs.Ythgagehgiooklaa.G.r_kind_0 (g5 (x0 + Int.toNat x4) (2 : Nat)) (64 : Int))).steps != x3)
 (.ok (.ret, [(.b (Bool.false))]))
 (.ok (.normal, [(.n (x0)), (.n (x1)), (.i (x2)), (.i (x3)), (.i (Go.IntKind.wrap Go.IntKind.i64 (x4 + (1 : Int)))), (.q (n5) (g5) ((5 : Nat)) ((1 : Nat)) (h5)), (.b ((Go.Proofs.Ythgagehgiooklaa.G.Mem.flM { n := n10, g := g10, h := h10, off := x6, burns := x7, left := x8, steps := x9 } (Go.Proofs.Ythgagehgiooklaa.G.r_kind_0 (g5 (x0 + Int.toNat x4) (1 : Nat)) (8 : Int)) (Go.Proofs.Ythgagehgiooklaa.G.r_kind_0 (g5 (x0 + Int.toNat x4) (2 : Nat)) (64 : Int))).off)), (.b ((Go.Proofs.Ythgagehgiooklaa.G.Mem.flM { n := n10, g := g10, h := h10, off := x6, burns := x7, left := x8, steps := x9 } (Go.Proofs.Ythgagehgiooklaa.G.r_kind_0 (g5 (x0 + Int.toNat x4) (1 : Nat)) (8 : Int)) (Go.Proofs.Ythgagehgiooklaa.G.r_kind_0 (g5 (x0 + Int.toNat x4) (2 : Nat)) (64 : Int))).burns)), (.i ((Go.Proofs.Ythgagehgiooklaa.G.Mem.flM { n := n10, g := g10, h := h10, off := x6, burns := x7, left := x8, steps := x9 } (Go.Proofs.Ythgagehgiooklaa.G.r_kind_0 (g5 (x0 + Int.toNat x4) (1 : Nat)) (8 : Int)) (Go.Proofs.Ythgagehgiooklaa.G.r_kind_0 (g5 (x0 + Int.toNat x4) (2 : Nat)) (64 : Int))).left)), (.i ((Go.Proofs.Ythgagehgiooklaa.G.Mem.flM { n := n10, g := g10, h := h10, off := x6, burns := x7, left := x8, steps := x9 } (Go.Proofs.Ythgagehgiooklaa.G.r_kind_0 (g5 (x0 + Int.toNat x4) (1 : Nat)) (8 : Int)) (Go.Proofs.Ythgagehgiooklaa.G.r_kind_0 (g5 (x0 + Int.toNat x4) (2 : Nat)) (64 : Int))).steps)), (.q ((Go.Proofs.Ythgagehgiooklaa.G.Mem.flM { n := n10, g := g10, h := h10, off := x6, burns := x7, left := x8, steps := x9 } (Go.Proofs.Ythgagehgiooklaa.G.r_kind_0 (g5 (x0 + Int.toNat x4) (1 : Nat)) (8 : Int)) (Go.Proofs.Ythgagehgiooklaa.G.r_kind_0 (g5 (x0 + Int.toNat x4) (2 : Nat)) (64 : Int))).n) ((Go.Proofs.Ythgagehgiooklaa.G.Mem.flM { n := n10, g := g10, h := h10, off := x6, burns := x7, left := x8, steps := x9 } (Go.Proofs.Ythgagehgiooklaa.G.r_kind_0 (g5 (x0 + Int.toNat x4) (1 : Nat)) (8 : Int)) (Go.Proofs.Ythgagehgiooklaa.G.r_kind_0 (g5 (x0 + Int.toNat x4) (2 : Nat)) (64 : Int))).g) ((16 : Nat)) ((2 : Nat)) ((Go.Proofs.Ythgagehgiooklaa.G.Mem.flM { n := n10, g := g10, h := h10, off := x6, burns := x7, left := x8, steps := x9 } (Go.Proofs.Ythgagehgiooklaa.G.r_kind_0 (g5 (x0 + Int.toNat x4) (1 : Nat)) (8 : Int)) (Go.Proofs.Ythgagehgiooklaa.G.r_kind_0 (g5 (x0 + Int.toNat x4) (2 : Nat)) (64 : Int))).h))]))))))
 (.no))
 (.no))
 (.no))
 (.no))
 (.no))
 (.br 81 (Go.Proofs.Ythgagehgiooklaa.G.r_kind_0 (g5 (x0 + Int.toNat x4) (0 : Nat)) (3 : Int) == (2 : Int))
 (.br 86 (Go.AM.within x4 x1)
 (.br 0 (Go.Proofs.Ythgagehgiooklaa.G.ok_kind (g5 (x0 + Int.toNat x4) (1 : Nat)) (8 : Int))
 (.br 0 (Go.Proofs.Ythgagehgiooklaa.G.pdec (Go.Proofs.Ythgagehgiooklaa.G.Mem.Ok (900000 : Int) { n := n10, g := g10, h := h10, off := x6, burns := x7, left := x8, steps := x9 }))
 (.br 92 (Go.Proofs.Ythgagehgiooklaa.G.Mem.feC { n := n10, g := g10, h := h10, off := x6, burns := x7, left := x8, steps := x9 } (Go.Proofs.Ythgagehgiooklaa.G.r_kind_0 (g5 (x0 + Int.toNat x4) (1 : Nat)) (8 : Int)) == (0 : Int))
 (.br 101 (!(Go.Proofs.Ythgagehgiooklaa.G.Mem.feC { n := n10, g := g10, h := h10, off := x6, burns := x7, left := x8, steps := x9 } (Go.Proofs.Ythgagehgiooklaa.G.r_kind_0 (g5 (x0 + Int.toNat x4) (1 : Nat)) (8 : Int)) == (0 : Int)) == Decidable.decide (x4 < x2))
 (.ok (.ret, [(.b (Bool.false))]))
 (.br 109 (!(!(Go.Proofs.Ythgagehgiooklaa.G.Mem.feM { n := n10, g := g10, h := h10, off := x6, burns := x7, left := x8, steps := x9 } (Go.Proofs.Ythgagehgiooklaa.G.r_kind_0 (g5 (x0 + Int.toNat x4) (1 : Nat)) (8 : Int))).off) == Decidable.decide (x4 < x2))
 (.ok (.ret, [(.b (Bool.false))]))
 (.br 114 ((Go.Proofs.Ythgagehgiooklaa.G.Mem.feM { n := n10, g := g10, h := h10, off := x6, burns := x7, left := x8, steps := x9 } (Go.Proofs.Ythgagehgiooklaa.G.r_kind_0 (g5 (x0 + Int.toNat x4) (1 : Nat)) (8 : Int))).steps != Go.IntKind.wrap Go.IntKind.i64 (x3 + (1 : Int)))
 (.ok (.ret, [(.b (Bool.false))]))
 (.ok (.normal, [(.n (x0)), (.n (x1)), (.i (x2)), (.i (Go.IntKind.wrap Go.IntKind.i64 (x3 + (1 : Int)))), (.i (Go.IntKind.wrap Go.IntKind.i64 (x4 + (1 : Int)))), (.q (n5) (g5) ((5 : Nat)) ((1 : Nat)) (h5)), (.b ((Go.Proofs.Ythgagehgiooklaa.G.Mem.feM { n := n10, g := g10, h := h10, off := x6, burns := x7, left := x8, steps := x9 } (Go.Proofs.Ythgagehgiooklaa.G.r_kind_0 (g5 (x0 + Int.toNat x4) (1 : Nat)) (8 : Int))).off)), (.b ((Go.Proofs.Ythgagehgiooklaa.G.Mem.feM { n := n10, g := g10, h := h10, off := x6, burns := x7, left := x8, steps := x9 } (Go.Proofs.Ythgagehgiooklaa.G.r_kind_0 (g5 (x0 + Int.toNat x4) (1 : Nat)) (8 : Int))).burns)), (.i ((Go.Proofs.Ythgagehgiooklaa.G.Mem.feM { n := n10, g := g10, h := h10, off := x6, burns := x7, left := x8, steps := x9 } (Go.Proofs.Ythgagehgiooklaa.G.r_kind_0 (g5 (x0 + Int.toNat x4) (1 : Nat)) (8 : Int))).left)), (.i ((Go.Proofs.Ythgagehgiooklaa.G.Mem.feM { n := n10, g := g10, h := h10, off := x6, burns := x7, left := x8, steps := x9 } (Go.Proofs.Ythgagehgiooklaa.G.r_kind_0 (g5 (x0 + Int.toNat x4) (1 : Nat)) (8 : Int))).steps)), (.q ((Go.Proofs.Ythgagehgiooklaa.G.Mem.feM { n := n10, g := g10, h := h10, off := x6, burns := x7, left := x8, steps := x9 } (Go.Proofs.Ythgagehgiooklaa.G.r_kind_0 (g5 (x0 + Int.toNat x4) (1 : Nat)) (8 : Int))).n) ((Go.Proofs.Ythgagehgiooklaa.G.Mem.feM { n := n10, g := g10, h := h10, off := x6, burns := x7, left := x8, steps := x9 } (Go.Proofs.Ythgagehgiooklaa.G.r_kind_0 (g5 (x0 + Int.toNat x4) (1 : Nat)) (8 : Int))).g) ((16 : Nat)) ((2 : Nat)) ((Go.Proofs.Ythgagehgiooklaa.G.Mem.feM { n := n10, g := g10, h := h10, off := x6, burns := x7, left := x8, steps := x9 } (Go.Proofs.Ythgagehgiooklaa.G.r_kind_0 (g5 (x0 + Int.toNat x4) (1 : Nat)) (8 : Int))).h))])))))
 (.br 101 (!(Go.Proofs.Ythgagehgiooklaa.G.Mem.feC { n := n10, g := g10, h := h10, off := x6, burns := x7, left := x8, steps := x9 } (Go.Proofs.Ythgagehgiooklaa.G.r_kind_0 (g5 (x0 + Int.toNat x4) (1 : Nat)) (8 : Int)) == (0 : Int)) == Decidable.decide (x4 < x2))
 (.ok (.ret, [(.b (Bool.false))]))
 (.br 109 (!(!(Go.Proofs.Ythgagehgiooklaa.G.Mem.feM { n := n10, g := g10, h := h10, off := x6, burns := x7, left := x8, steps := x9 } (Go.Proofs.Ythgagehgiooklaa.G.r_kind_0 (g5 (x0 + Int.toNat x4) (1 : Nat)) (8 : Int))).off) == Decidable.decide (x4 < x2))
 (.ok (.ret, [(.b (Bool.false))]))
 (.br 114 ((Go.Proofs.Ythgagehgiooklaa.G.Mem.feM { n := n10, g := g10, h := h10, off := x6, burns := x7, left := x8, steps := x9 } (Go.Proofs.Ythgagehgiooklaa.G.r_kind_0 (g5 (x0 + Int.toNat x4) (1 : Nat)) (8 : Int))).steps != x3)
 (.ok (.ret, [(.b (Bool.false))]))
 (.ok (.normal, [(.n (x0)), (.n (x1)), (.i (x2)), (.i (x3)), (.i (Go.IntKind.wrap Go.IntKind.i64 (x4 + (1 : Int)))), (.q (n5) (g5) ((5 : Nat)) ((1 : Nat)) (h5)), (.b ((Go.Proofs.Ythgagehgiooklaa.G.Mem.feM { n := n10, g := g10, h := h10, off := x6, burns := x7, left := x8, steps := x9 } (Go.Proofs.Ythgagehgiooklaa.G.r_kind_0 (g5 (x0 + Int.toNat x4) (1 : Nat)) (8 : Int))).off)), (.b ((Go.Proofs.Ythgagehgiooklaa.G.Mem.feM { n := n10, g := g10, h := h10, off := x6, burns := x7, left := x8, steps := x9 } (Go.Proofs.Ythgagehgiooklaa.G.r_kind_0 (g5 (x0 + Int.toNat x4) (1 : Nat)) (8 : Int))).burns)), (.i ((Go.Proofs.Ythgagehgiooklaa.G.Mem.feM { n := n10, g := g10, h := h10, off := x6, burns := x7, left := x8, steps := x9 } (Go.Proofs.Ythgagehgiooklaa.G.r_kind_0 (g5 (x0 + Int.toNat x4) (1 : Nat)) (8 : Int))).left)), (.i ((Go.Proofs.Ythgagehgiooklaa.G.Mem.feM { n := n10, g := g10, h := h10, off := x6, burns := x7, left := x8, steps := x9 } (Go.Proofs.Ythgagehgiooklaa.G.r_kind_0 (g5 (x0 + Int.toNat x4) (1 : Nat)) (8 : Int))).steps)), (.q ((Go.Proofs.Ythgagehgiooklaa.G.Mem.feM { n := n10, g := g10, h := h10, off := x6, burns := x7, left := x8, steps := x9 } (Go.Proofs.Ythgagehgiooklaa.G.r_kind_0 (g5 (x0 + Int.toNat x4) (1 : Nat)) (8 : Int))).n) ((Go.Proofs.Ythgagehgiooklaa.G.Mem.feM { n := n10, g := g10, h := h10, off := x6, burns := x7, left := x8, steps := x9 } (Go.Proofs.Ythgagehgiooklaa.G.r_kind_0 (g5 (x0 + Int.toNat x4) (1 : Nat)) (8 : Int))).g) ((16 : Nat)) ((2 : Nat)) ((Go.Proofs.Ythgagehgiooklaa.G.Mem.feM { n := n10, g := g10, h := h10, off := x6, burns := x7, left := x8, steps := x9 } (Go.Proofs.Ythgagehgiooklaa.G.r_kind_0 (g5 (x0 + Int.toNat x4) (1 : Nat)) (8 : Int))).h))]))))))
 (.no))
 (.no))
 (.no))
 (.br 92 (Bool.true)
 (.br 101 (!Bool.true == Decidable.decide (x4 < x2))
 (.ok (.ret, [(.b (Bool.false))]))
 (.br 109 (!(!x6) == Decidable.decide (x4 < x2))
 (.ok (.ret, [(.b (Bool.false))]))
 (.br 114 (x9 != Go.IntKind.wrap Go.IntKind.i64 (x3 + (1 : Int)))
 (.ok (.ret, [(.b (Bool.false))]))
 (.ok (.normal, [(.n (x0)), (.n (x1)), (.i (x2)), (.i (Go.IntKind.wrap Go.IntKind.i64 (x3 + (1 : Int)))), (.i (Go.IntKind.wrap Go.IntKind.i64 (x4 + (1 : Int)))), (.q (n5) (g5) ((5 : Nat)) ((1 : Nat)) (h5)), (.b (x6)), (.b (x7)), (.i (x8)), (.i (x9)), (.q (n10) (g10) ((16 : Nat)) ((2 : Nat)) (h10))])))))
 (.br 101 (!Bool.true == Decidable.decide (x4 < x2))
 (.ok (.ret, [(.b (Bool.false))]))
 (.br 109 (!(!x6) == Decidable.decide (x4 < x2))
 (.ok (.ret, [(.b (Bool.false))]))
 (.br 114 (x9 != x3)
 (.ok (.ret, [(.b (Bool.false))]))
 (.ok (.normal, [(.n (x0)), (.n (x1)), (.i (x2)), (.i (x3)), (.i (Go.IntKind.wrap Go.IntKind.i64 (x4 + (1 : Int)))), (.q (n5) (g5) ((5 : Nat)) ((1 : Nat)) (h5)), (.b (x6)), (.b (x7)), (.i (x8)), (.i (x9)), (.q (n10) (g10) ((16 : Nat)) ((2 : Nat)) (h10))])))))))))
 (.no))
 (.no))
 (.ok (.exit 0, [(.b (x6)), (.b (x7)), (.i (x8)), (.i (x9)), (.q (n10) (g10) ((16 : Nat)) ((2 : Nat)) (h10))])))
 (.ok (.exit 0, [(.b (x6)), (.b (x7)), (.i (x8)), (.i (x9)), (.q (n10) (g10) ((16 : Nat)) ((2 : Nat)) (h10))]))
noncomputable def y_NvmFuses_9 : Nat → Option Nat := (syOf3 [32, 35, 40, 44, 49, 55, 61, 92, 101, 109, 114, 65, 70, 76, 81, 86] [] [])
noncomputable def BL_NvmFuses_9 (l : List At) : Tr (Ex × List At) := B_NvmFuses_9 (aN l 0) (aN l 1) (aI l 2) (aI l 3) (aI l 4) (aRn l 5) (aRg l 5) (aMh l 5 5 1) (aB l 6) (aB l 7) (aI l 8) (aI l 9) (aRn l 10) (aRg l 10) (aMh l 10 16 2)
theorem eB_NvmFuses_9 (l : List At) : (exec Try.prog Γ_S13 y_NvmFuses_9 noLoops 100 (loopAt Try.f5 9) ⟨mkV lsh_NvmFuses_9 l, mkH lsh_NvmFuses_9 l⟩).bind (leafL 2 xs_NvmFuses_9) = BL_NvmFuses_9 l := by kernel_rfl
/- by hand: O_NvmFuses_9 (x0 : Nat) (x1 : Nat) (x2 : Int) (x3 : Int) (x4 : Int) (n5 : Nat) (g5 : Nat → Nat → Int) (h5 : Nat → Nat → Int) (x6 : Bool) (x7 : Bool) (x8 : Int) (x9 : Int) (n10 : Nat) (g10 : Nat → Nat → Int) (h10 : Nat → Nat → Int) : Tr (Ex × List At); OL_NvmFuses_9 (l) := O_NvmFuses_9 (aN l 0) (aN l 1) (aI l 2) (aI l 3) (aI l 4) (aRn l 5) (aRg l 5) (aMh l 5 5 1) (aB l 6) (aB l 7) (aI l 8) (aI l 9) (aRn l 10) (aRg l 10) (aMh l 10 16 2); μ_NvmFuses_9 : List At → Nat; rd_NvmFuses_9 : ∀ l r, (OL_NvmFuses_9 l).val = some r → RoundA BL_NvmFuses_9 OL_NvmFuses_9 μ_NvmFuses_9 l r -/

end Go.Proofs.Ythgagehgiooklaa.G
end

/-
  The loop of NvmFuses: steps behind a fuse.
-/
section
namespace Go.Proofs.Ythgagehgiooklaa.G
open Go Go.AM Go.Proofs

/-- What a step of the loop makes. -/
noncomputable def fuS (r : Nat → Int) (m : Mem) : Mem :=
  if r_kind_0 (r 0) 3 = 0 then m.stM (r_kind_0 (r 2) 64) (r_kind_0 (r 3) 8) (r 4) else if r_kind_0 (r 0) 3 = 1 then m.flM (r_kind_0 (r 1) 8) (r_kind_0 (r 2) 64) else m.feM (r_kind_0 (r 1) 8)
noncomputable def fuL (G : Nat → Nat → Int) : (m i : Nat) → Mem → Mem
  | 0, _, M => M
  | m + 1, i, M => fuL G m (i + 1) (fuS (G i) M)

/-- Steps, the power and the fuse are as behind one step. -/
def SameStep (m M : Mem) : Prop := M.off = m.stp.off ∧ M.burns = m.stp.burns ∧ M.left = m.stp.left ∧ M.steps = m.stp.steps ∧ M.n = m.n

theorem same_st {m : Mem} {i w v : Int} (hb : m.bad i w = false) : SameStep m (m.stM i w v) := by
  unfold Mem.stM; rw [hb]; cases m.po <;> exact ⟨rfl, rfl, rfl, rfl, rfl⟩
theorem same_fl {m : Mem} {c i : Int} (hb : m.bad i c = false) : SameStep m (m.flM c i) := by
  unfold Mem.flM; rw [hb]; cases m.po <;> exact ⟨rfl, rfl, rfl, rfl, rfl⟩
theorem same_fe {m : Mem} {c : Int} (hb : corB c = false) : SameStep m (m.feM c) := by
  unfold Mem.feM; rw [hb]; cases m.po <;> exact ⟨rfl, rfl, rfl, rfl, rfl⟩

/-- Behind 'i' steps with a fuse of 'k'. -/
structure FuInv (k : Int) (i : Nat) (m : Mem) : Prop where
  k0 : 0 ≤ k
  k1 : k ≤ 40
  n : m.n = 64
  burns : m.burns = true
  off : m.off = decide (k < (i : Int))
  left : m.left = if k < (i : Int) then 0 else k - i
  steps : m.steps = if k < (i : Int) then k else (i : Int)

theorem fu_po {k : Int} {i : Nat} {m : Mem} (h : FuInv k i m) : m.po = decide (k ≤ (i : Int)) := by
  unfold Mem.po offB
  rw [h.off, h.burns, h.left]
  by_cases h1 : k < (i : Int)
  · rw [if_pos h1, show decide (k < (i : Int)) = true from decide_eq_true h1, show decide (k ≤ (i : Int)) = true from decide_eq_true (by omega)]; rfl
  · rw [if_neg h1, show decide (k < (i : Int)) = false from decide_eq_false h1]
    by_cases h2 : k = (i : Int)
    · rw [show decide (k ≤ (i : Int)) = true from decide_eq_true (by omega)]; simp; omega
    · rw [show decide (k ≤ (i : Int)) = false from decide_eq_false (by omega)]; simp; omega

theorem fu_same {k : Int} {i : Nat} {m M : Mem} (h : FuInv k i m) (hs : SameStep m M) : FuInv k (i + 1) M := by
  obtain ⟨s1, s2, s3, s4, s5⟩ := hs
  have hp := fu_po h
  refine ⟨h.k0, h.k1, by rw [s5, h.n], by rw [s2]; exact h.burns, ?_, ?_, ?_⟩
  · rw [s1]
    show m.po = _
    rw [hp]
    by_cases h2 : k ≤ (i : Int)
    · rw [decide_eq_true h2, decide_eq_true (by omega)]
    · rw [decide_eq_false h2, decide_eq_false (by omega)]
  · rw [s3]
    show leftI m.off m.burns m.left = _
    unfold leftI
    rw [show offB m.off m.burns m.left = decide (k ≤ (i : Int)) from hp, h.burns, h.left]
    by_cases h2 : k ≤ (i : Int)
    · rw [decide_eq_true h2, if_pos (by omega : k < ((i + 1 : Nat) : Int))]
      show (if k < (i : Int) then 0 else k - i) = 0
      split <;> omega
    · rw [decide_eq_false h2, if_neg (by omega : ¬ k < ((i + 1 : Nat) : Int)), if_neg (by omega)]
      show k - (i : Int) - 1 = _
      omega
  · rw [s4, stp_steps, hp, h.steps]
    by_cases h2 : k ≤ (i : Int)
    · rw [decide_eq_true h2, if_pos rfl, if_pos (by omega : k < ((i + 1 : Nat) : Int))]
      split <;> omega
    · rw [if_neg (show ¬ decide (k ≤ (i : Int)) = true by simp; omega), if_neg (show ¬ k < (i : Int) by omega), if_neg (show ¬ k < ((i + 1 : Nat) : Int) by omega)]
      omega

def preFu (x1 : Nat) (x2 x3 x4 : Int) (G : Nat → Nat → Int) (m : Mem) : Prop :=
  0 ≤ x4 ∧ x4 ≤ x1 ∧ x4 ≤ 60 ∧ x3 = m.steps ∧ FuInv x2 x4.toNat m ∧ m.Ok (800000 + x4) ∧ ∀ i c, i < x1 → c < 4 → -9223372036854775808 ≤ G i c ∧ G i c ≤ 9223372036854775807

noncomputable def O_NvmFuses_9 (x0 x1 : Nat) (x2 x3 x4 : Int) (g5 : Nat → Nat → Int) (m : Mem) : Tr (Ex × List At) :=
  .br 0 (pdec (preFu x1 x2 x3 x4 (fun i => g5 (x0 + i)) m)) (.ok (.exit 0, (fuL (fun i => g5 (x0 + i)) (min x1 60 - x4.toNat) x4.toNat m).ats)) .no
noncomputable def OL_NvmFuses_9 (l : List At) : Tr (Ex × List At) := O_NvmFuses_9 (aN l 0) (aN l 1) (aI l 2) (aI l 3) (aI l 4) (aRg l 5) ⟨aRn l 10, aRg l 10, aMh l 10 16 2, aB l 6, aB l 7, aI l 8, aI l 9⟩
def μ_NvmFuses_9 (l : List At) : Nat := min (aN l 1) 60 - (aI l 4).toNat

theorem fuS_same {r : Nat → Int} {m : Mem} (hn : m.n = 64) (hr : ∀ c, c < 4 → -9223372036854775808 ≤ r c ∧ r c ≤ 9223372036854775807) : SameStep m (fuS r m) := by
  obtain ⟨_, a1, a2⟩ := kind_in (n := 8) (hr 1 (by omega)).1 (hr 1 (by omega)).2 (by decide) (by decide)
  obtain ⟨_, b1, b2⟩ := kind_in (n := 64) (hr 2 (by omega)).1 (hr 2 (by omega)).2 (by decide) (by decide)
  obtain ⟨_, c1, c2⟩ := kind_in (n := 8) (hr 3 (by omega)).1 (hr 3 (by omega)).2 (by decide) (by decide)
  unfold fuS
  split
  · exact same_st (bad_of ⟨b1, by rw [hn]; exact b2, c1, c2⟩)
  · split
    · exact same_fl (bad_of ⟨b1, by rw [hn]; exact b2, a1, a2⟩)
    · exact same_fe (corB_of ⟨a1, a2⟩)

theorem fuS_ok {r : Nat → Int} {m : Mem} {K : Int} (h : m.Ok K) (hK : K < 1000000) : (fuS r m).Ok (K + 1) := by
  unfold fuS
  split
  · exact stM_ok h hK
  · split
    · exact flM_ok h
    · exact feM_ok h

theorem rd_NvmFuses_9 : ∀ l r, (OL_NvmFuses_9 l).val = some r → RoundS BL_NvmFuses_9 OL_NvmFuses_9 μ_NvmFuses_9 l r := by
  intro l r hh
  unfold OL_NvmFuses_9 at hh
  obtain ⟨hc, h⟩ := guard_val hh
  clear hh
  obtain ⟨c0, c1, c2, c3, c4, c5, c6⟩ := of_pdec hc
  have hr := val_ok h
  unfold RoundS BL_NvmFuses_9 B_NvmFuses_9
  generalize hx0 : aN l 0 = x0 at *
  generalize hx1 : aN l 1 = x1 at *
  generalize hx2 : aI l 2 = x2 at *
  generalize hx3 : aI l 3 = x3 at *
  generalize hx4 : aI l 4 = x4 at *
  generalize hg5 : aRg l 5 = g5 at *
  refine brD (fun h1 => brD (fun h2 => brW (fun _ => ?_) (fun hh => by exfalso; omega)) (fun h2 => ?_)) (fun h1 => ?_)
  · obtain ⟨i, rfl⟩ := Int.eq_ofNat_of_zero_le c0
    rw [Int.toNat_natCast] at c4 h ⊢
    have hw : IntKind.i64.wrap ((i : Int) + 1) = (i : Int) + 1 := wrap_i64 (by omega) (by omega)
    have hμ : min x1 60 - ((i : Int) + 1).toNat < μ_NvmFuses_9 l := by unfold μ_NvmFuses_9; rw [hx1, hx4]; omega
    have e1 : min x1 60 - i = (min x1 60 - ((i : Int) + 1).toNat) + 1 := by omega
    have hrow : ∀ c, c < 4 → -9223372036854775808 ≤ g5 (x0 + i) c ∧ g5 (x0 + i) c ≤ 9223372036854775807 := fun c hcc => c6 i c (by omega) hcc
    generalize hmm : (Mem.mk (aRn l 10) (aRg l 10) (aMh l 10 16 2) (aB l 6) (aB l 7) (aI l 8) (aI l 9)) = m at *
    have hn := c4.n
    have hsm := fuS_same hn hrow
    have hok := fuS_ok (r := g5 (x0 + i)) c5 (by omega)
    have hpo := fu_po c4
    obtain ⟨q1, q2, q3⟩ := kind_in (n := 3) (hrow 0 (by omega)).1 (hrow 0 (by omega)).2 (by decide) (by decide)
    obtain ⟨a0, a1, a2⟩ := kind_in (n := 8) (hrow 1 (by omega)).1 (hrow 1 (by omega)).2 (by decide) (by decide)
    obtain ⟨b0, b1, b2⟩ := kind_in (n := 64) (hrow 2 (by omega)).1 (hrow 2 (by omega)).2 (by decide) (by decide)
    obtain ⟨d0, d1, d2⟩ := kind_in (n := 8) (hrow 3 (by omega)).1 (hrow 3 (by omega)).2 (by decide) (by decide)
    have hst0 : 0 ≤ m.steps := c5.2.1
    have hst1 : m.steps ≤ 800000 + i := c5.2.2.1
    rw [e1, fuL] at h
    rw [hw]
    have fin : ∀ (M' : Mem) (x3' : Int), M' = fuS (g5 (x0 + i)) m → x3' = M'.steps → (Tr.ok (Ex.normal, [At.n x0, .n x1, .i x2, .i x3', .i ((i : Int) + 1), .q (aRn l 5) g5 5 1 (aMh l 5 5 1), .b M'.off, .b M'.burns, .i M'.left, .i M'.steps, .q M'.n M'.g 16 2 M'.h])).sat fun p => (p.1 = .normal ∧ ∃ l2 r', AtsEq p.2 l2 ∧ μ_NvmFuses_9 l2 < μ_NvmFuses_9 l ∧ (OL_NvmFuses_9 l2).val = some r' ∧ r'.1 = r.1 ∧ AtsEq r'.2 r.2) ∨ (p.1 ≠ .normal ∧ r.1 = p.1 ∧ AtsEq p.2 r.2) := by
      intro M' x3' hM hx
      subst hM
      have hq : preFu x1 x2 x3' ((i : Int) + 1) (fun i => g5 (x0 + i)) (fuS (g5 (x0 + i)) m) := ⟨by omega, by omega, by omega, hx, fu_same c4 hsm, hok.mono (by omega), c6⟩
      exact on_ _ r (AtsEq.refl _) hμ ((br_t (g := 0) (pdec_yes hq)).trans h) rfl (AtsEq.refl _)
    have go : ∀ (C : Int) (M' : Mem), C = m.cod → M' = fuS (g5 (x0 + i)) m →
        (Tr.br 92 (C == 0) (.br 101 (!((C == 0) == decide ((i : Int) < x2))) (.ok (Ex.ret, [At.b false])) (.br 109 (!((!M'.off) == decide ((i : Int) < x2))) (.ok (.ret, [.b false])) (.br 114 (M'.steps != IntKind.i64.wrap (x3 + 1)) (.ok (.ret, [.b false]))
            (.ok (.normal, [.n x0, .n x1, .i x2, .i (IntKind.i64.wrap (x3 + 1)), .i ((i : Int) + 1), .q (aRn l 5) g5 5 1 (aMh l 5 5 1), .b M'.off, .b M'.burns, .i M'.left, .i M'.steps, .q M'.n M'.g 16 2 M'.h])))))
          (.br 101 (!((C == 0) == decide ((i : Int) < x2))) (.ok (.ret, [.b false])) (.br 109 (!((!M'.off) == decide ((i : Int) < x2))) (.ok (.ret, [.b false])) (.br 114 (M'.steps != x3) (.ok (.ret, [.b false]))
            (.ok (.normal, [.n x0, .n x1, .i x2, .i x3, .i ((i : Int) + 1), .q (aRn l 5) g5 5 1 (aMh l 5 5 1), .b M'.off, .b M'.burns, .i M'.left, .i M'.steps, .q M'.n M'.g 16 2 M'.h])))))).sat fun p => (p.1 = .normal ∧ ∃ l2 r', AtsEq p.2 l2 ∧ μ_NvmFuses_9 l2 < μ_NvmFuses_9 l ∧ (OL_NvmFuses_9 l2).val = some r' ∧ r'.1 = r.1 ∧ AtsEq r'.2 r.2) ∨ (p.1 ≠ .normal ∧ r.1 = p.1 ∧ AtsEq p.2 r.2) := by
      intro C M' hC hM
      have hoff : M'.off = m.po := by rw [hM]; exact hsm.1
      have hs : M'.steps = if m.po then m.steps else m.steps + 1 := by rw [hM, hsm.2.2.2.1]; exact stp_steps m
      by_cases hk : x2 ≤ (i : Int)
      · have hp : m.po = true := by rw [hpo]; exact decide_eq_true hk
        have hd : decide ((i : Int) < x2) = false := decide_eq_false (by omega)
        rw [hp] at hoff hs
        rw [hC, po_cod4 hp, hd, hoff]
        refine brF rfl (brF rfl (brF rfl (brF (by rw [hs, c3]; simp) ?_)))
        rw [← hoff]
        exact fin M' _ hM (by rw [hs, c3]; rfl)
      · have hp : m.po = false := by rw [hpo]; exact decide_eq_false hk
        have hd : decide ((i : Int) < x2) = true := decide_eq_true (by omega)
        rw [hp] at hoff hs
        have hw3 : IntKind.i64.wrap (x3 + 1) = x3 + 1 := wrap_i64 (by omega) (by omega)
        rw [hC, po_cod hp, hd, hoff, hw3]
        refine brT rfl (brF rfl (brF rfl (brF (by rw [hs, c3]; simp) ?_)))
        rw [← hoff]
        exact fin M' _ hM (by rw [hs, c3]; rfl)
    have hbst : m.bad (r_kind_0 (g5 (x0 + i) 2) 64) (r_kind_0 (g5 (x0 + i) 3) 8) = false := bad_of ⟨b1, by rw [hn]; exact b2, d1, d2⟩
    have hbfl : m.bad (r_kind_0 (g5 (x0 + i) 2) 64) (r_kind_0 (g5 (x0 + i) 1) 8) = false := bad_of ⟨b1, by rw [hn]; exact b2, a1, a2⟩
    refine brT q1 (brQ (fun k0 => ?_) (fun k0 => ?_))
    · refine brW (fun _ => brT b0 (brW (fun _ => brT d0 (brW (fun _ => brT (pdec_yes (c5.mono (by omega))) ?_) (fun hh => by exfalso; omega))) (fun hh => by exfalso; omega))) (fun hh => by exfalso; omega)
      exact go _ _ (by unfold Mem.stC; rw [hbst]; rfl) (by unfold fuS; rw [if_pos k0])
    · refine brQ (fun k1 => ?_) (fun k1 => ?_)
      · refine brW (fun _ => brT a0 (brW (fun _ => brT b0 (brT (pdec_yes (c5.mono (by omega))) ?_)) (fun hh => by exfalso; omega))) (fun hh => by exfalso; omega)
        exact go _ _ (by unfold Mem.stC; rw [hbfl]; rfl) (by unfold fuS; rw [if_neg k0, if_pos k1])
      · refine brQ (fun k2 => ?_) (fun k2 => by exfalso; omega)
        refine brW (fun _ => brT a0 (brT (pdec_yes (c5.mono (by omega))) ?_)) (fun hh => by exfalso; omega)
        exact go _ _ (by unfold Mem.feC; rw [corB_of ⟨a1, a2⟩]; rfl) (by unfold fuS; rw [if_neg k0, if_neg k1])
  all_goals
    subst hr
    have e : min x1 60 - x4.toNat = 0 := by omega
    refine out_ (by simp) rfl ?_
    simp only [e, fuL]
    exact AtsEq.refl _
end Go.Proofs.Ythgagehgiooklaa.G
end

/-
  What functions of the seat compute, printed by a program from the explorer.
-/
section
namespace Go.Proofs.Ythgagehgiooklaa.G
open Go Go.AM Go.Proofs
theorem f_NvmFuses_9 : LoopF Try.prog 2 (loopAt Try.f5 9) (loopFn 2 lsh_NvmFuses_9 xs_NvmFuses_9 OL_NvmFuses_9) :=
  loop_sat (sy := y_NvmFuses_9) (fuel := 100) (Lp := noLoops) o_S13 mixed (loopsOK_at (noLoops_ok _) 9) rfl eB_NvmFuses_9 rd_NvmFuses_9
noncomputable def Lp_NvmFuses_9 : Loops := Loops.set noLoops 9 (loopFn 2 lsh_NvmFuses_9 xs_NvmFuses_9 OL_NvmFuses_9)
theorem lk_NvmFuses_9 : LoopsFn Try.prog 2 Lp_NvmFuses_9 Try.f5 := loopsFn_set (noLoops_ok _) (by kernel_rfl) f_NvmFuses_9

/-! ### NvmFuses -/

noncomputable def ish_NvmFuses : FSh := ⟨[.v false [.k (.n .i64)], .v false [.vw 0 6]], [.nrows [.n .i64, .n .i64, .n .i64, .n .i64, .n .u64, .n .i64] 5 [.n .i64] 1 false false, .no]⟩
noncomputable def osh_NvmFuses : FSh := ⟨[.v false [.k .b]], [.no, .no]⟩
noncomputable def T_NvmFuses (x0 : Int) (n1 : Nat) (g1 : Nat → Nat → Int) (h1 : Nat → Nat → Int) : Tr (List At) :=
 .br 0 (Bool.false)
 (.ok [(.b (Bool.false))])
 (.br 0 (Go.Proofs.Ythgagehgiooklaa.G.ok_kind x0 (41 : Int))
 (.br 0 (Go.Proofs.Ythgagehgiooklaa.G.pdec (Go.Proofs.Ythgagehgiooklaa.G.preFu n1 (Go.Proofs.Ythgagehgiooklaa.G.r_kind_0 x0 (41 : Int)) (0 : Int) (0 : Int) (fun (i : Nat) => g1 ((0 : Nat) + i)) (Go.Proofs.Ythgagehgiooklaa.G.Mem.fuM (Go.Proofs.Ythgagehgiooklaa.G.newM (64 : Nat)) (Go.Proofs.Ythgagehgiooklaa.G.r_kind_0 x0 (41 : Int)))))
 (.br 0 (Go.Proofs.Ythgagehgiooklaa.G.pdec (Go.Proofs.Ythgagehgiooklaa.G.Mem.Ok (900000 : Int) (Go.Proofs.Ythgagehgiooklaa.G.fuL (fun (i : Nat) => g1 ((0 : Nat) + i)) (Min.min n1 (60 : Nat) - (0 : Nat)) (0 : Nat) (Go.Proofs.Ythgagehgiooklaa.G.Mem.fuM (Go.Proofs.Ythgagehgiooklaa.G.newM (64 : Nat)) (Go.Proofs.Ythgagehgiooklaa.G.r_kind_0 x0 (41 : Int))))))
 (.br 0 (Go.Proofs.Ythgagehgiooklaa.G.pdec (Go.Proofs.Ythgagehgiooklaa.G.KeepOk (fun (_ : Nat) => (0 : Int)) (0 : Nat)))
 (.br 119 (!(Go.Proofs.Ythgagehgiooklaa.G.Mem.crM (Go.Proofs.Ythgagehgiooklaa.G.fuL (fun (i : Nat) => g1 ((0 : Nat) + i)) (Min.min n1 (60 : Nat) - (0 : Nat)) (0 : Nat) (Go.Proofs.Ythgagehgiooklaa.G.Mem.fuM (Go.Proofs.Ythgagehgiooklaa.G.newM (64 : Nat)) (Go.Proofs.Ythgagehgiooklaa.G.r_kind_0 x0 (41 : Int)))) (fun (_ : Nat) => (0 : Int)) (0 : Nat)).off)
 (.br 0 (Go.Proofs.Ythgagehgiooklaa.G.pdec (Go.Proofs.Ythgagehgiooklaa.G.Mem.Ok (900000 : Int) (Go.Proofs.Ythgagehgiooklaa.G.Mem.crM (Go.Proofs.Ythgagehgiooklaa.G.fuL (fun (i : Nat) => g1 ((0 : Nat) + i)) (Min.min n1 (60 : Nat) - (0 : Nat)) (0 : Nat) (Go.Proofs.Ythgagehgiooklaa.G.Mem.fuM (Go.Proofs.Ythgagehgiooklaa.G.newM (64 : Nat)) (Go.Proofs.Ythgagehgiooklaa.G.r_kind_0 x0 (41 : Int)))) (fun (_ : Nat) => (0 : Int)) (0 : Nat))))
 (.ok [(.b (Go.Proofs.Ythgagehgiooklaa.G.Mem.stC (Go.Proofs.Ythgagehgiooklaa.G.Mem.crM (Go.Proofs.Ythgagehgiooklaa.G.fuL (fun (i : Nat) => g1 ((0 : Nat) + i)) (Min.min n1 (60 : Nat) - (0 : Nat)) (0 : Nat) (Go.Proofs.Ythgagehgiooklaa.G.Mem.fuM (Go.Proofs.Ythgagehgiooklaa.G.newM (64 : Nat)) (Go.Proofs.Ythgagehgiooklaa.G.r_kind_0 x0 (41 : Int)))) (fun (_ : Nat) => (0 : Int)) (0 : Nat)) (0 : Int) (0 : Int) == (0 : Int)))])
 (.no))
 (.ok [(.b (Bool.false))]))
 (.no))
 (.no))
 (.no))
 (.no))
noncomputable def y_NvmFuses : Nat → Option Nat := (syOf3 [119] [] [])
noncomputable def TL_NvmFuses (l : List At) : Tr (List At) := T_NvmFuses (aI l 0) (aRn l 1) (aRg l 1) (aMh l 1 5 1)
theorem e_NvmFuses (l : List At) : (call Try.prog Γ_S13 y_NvmFuses Lp_NvmFuses_9 100 Try.f5 (mkV ish_NvmFuses l) (mkH ish_NvmFuses l)).bind (leafO ish_NvmFuses.hp.length ⟨[.v false [.k .b]], List.replicate ish_NvmFuses.hp.length .no⟩) = TL_NvmFuses l := by kernel_rfl

end Go.Proofs.Ythgagehgiooklaa.G
end

/-
  The plain law of NvmFuses.
-/
section
namespace Go.Proofs.Ythgagehgiooklaa.G
open Go Go.AM Go.Proofs

theorem fuL_n {G : Nat → Nat → Int} : ∀ (m i : Nat) (M : Mem), (fuL G m i M).n = M.n
  | 0, _, _ => rfl
  | m + 1, i, M => by
    rw [fuL, fuL_n m]
    unfold fuS
    split
    · exact stM_n
    · split
      · exact flM_n
      · exact feM_n
theorem fuL_ok {G : Nat → Nat → Int} : ∀ (m i : Nat) (M : Mem) (K : Int), M.Ok K → K + m ≤ 900000 → (fuL G m i M).Ok (K + m)
  | 0, _, _, _, h, _ => h.mono (by omega)
  | m + 1, i, M, K, h, hK => by
    rw [fuL]
    exact (fuL_ok m (i + 1) _ (K + 1) (fuS_ok h (by omega)) (by omega)).mono (by omega)

theorem vc_NvmFuses (x0 : Int) (n1 : Nat) (g1 h1 : Nat → Nat → Int) (x0l : -9223372036854775808 ≤ x0) (x0h : x0 ≤ 9223372036854775807) (_b : n1 ≤ maxLen) (w : ∀ (i c : Nat) (k : SK), i < n1 → [SK.n .i64, SK.n .i64, SK.n .i64, SK.n .i64, SK.n .u64][c]? = some k → wfS k (g1 i c))
    (_wm : ∀ i, i < n1 → 0 ≤ g1 i 5 ∧ g1 i 5 ≤ maxLen ∧ ∀ (j c : Nat) k, j < (g1 i 5).toNat → [SK.n .i64][c]? = some k → wfS k (h1 i (j * 1 + c))) : (T_NvmFuses x0 n1 g1 h1).sat fun r => r = [.b true] := by
  obtain ⟨k1, kx, kx2⟩ := kind_in (n := 41) x0l x0h (by decide) (by decide)
  have h0 : (newM 64).Ok 0 := newM_ok (by decide)
  unfold T_NvmFuses
  generalize r_kind_0 x0 41 = k at *
  have ok0 := fuM_ok (x := k) h0 (by omega)
  have hG : ∀ i c, i < n1 → c < 4 → -9223372036854775808 ≤ g1 (0 + i) c ∧ g1 (0 + i) c ≤ 9223372036854775807 := fun i c hi hc => by
    rw [Nat.zero_add]
    match c, hc with
    | 0, _ => exact w i 0 (.n .i64) hi rfl
    | 1, _ => exact w i 1 (.n .i64) hi rfl
    | 2, _ => exact w i 2 (.n .i64) hi rfl
    | 3, _ => exact w i 3 (.n .i64) hi rfl
  have inv : FuInv k 0 ((newM 64).fuM k) := ⟨kx, by omega, rfl, decide_eq_true kx, (decide_eq_false (by omega)).symm, by rw [if_neg (by omega)]; show k = k - ((0 : Nat) : Int); omega, by rw [if_neg (by omega)]; rfl⟩
  generalize hL : fuL (fun i => g1 (0 + i)) (min n1 60 - 0) 0 ((newM 64).fuM k) = M
  have okL : M.Ok 100 := by rw [← hL]; exact (fuL_ok _ 0 _ 0 ok0 (by omega)).mono (by omega)
  have nL : M.n = 64 := by rw [← hL, fuL_n]; rfl
  refine brF rfl (brT k1 (brT (pdec_yes ⟨Int.le_refl _, by omega, by omega, rfl, inv, ok0.mono (by omega), hG⟩) (brT (pdec_yes (okL.mono (by omega))) (brT (pdec_yes keepOk_nil) (brT rfl (brT (pdec_yes ((crM_ok okL).mono (by omega))) (Tr.sat_ok.2 ?_)))))))
  rw [stC_on crM_on (bad_of ⟨by decide, by show (0 : Int) < M.n; rw [nL]; decide, by decide, by decide⟩)]
  rfl
end Go.Proofs.Ythgagehgiooklaa.G
end

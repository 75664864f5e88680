/-
  What functions of the seat compute, printed by a program from the explorer.
-/
import Derived.Test.YthpcjcdiaifoiaaCrcVToO11
import Derived.KernelRfl
section
namespace Go.Proofs.Ythpcjcdiaifoiaa.G
open Go Go.AM Go.Proofs
theorem f_rappend_11 : LoopF Try.prog 3 (loopAt Try.f18 11) (loopFn 3 lsh_rappend_11 xs_rappend_11 OL_rappend_11) :=
  loop_sat (sy := y_rappend_11) (fuel := 100) (Lp := noLoops) o_R4 mixed (loopsOK_at (noLoops_ok _) 11) rfl eB_rappend_11 rd_rappend_11
noncomputable def Lp_rappend_11 : Loops := Loops.set noLoops 11 (loopFn 3 lsh_rappend_11 xs_rappend_11 OL_rappend_11)
theorem lk_rappend_11 : LoopsFn Try.prog 3 Lp_rappend_11 Try.f18 := loopsFn_set (noLoops_ok _) (by kernel_rfl) f_rappend_11

/-! ### rappend -/

noncomputable def ish_rappend : FSh := ⟨[.v false [.p 0 0], .v false [.k (.n .i64)], .v false [.k (.n .i64)], .v true [.k (.n .i64), .k (.n .i64), .k (.n .i64), .k (.n .u64)]], [.cells [.sw 1 25, .k .b, .k .b, .k (.n .i64), .k (.n .i64)], .nrows [.n .u64, .n .u64, .n .u64, .n .u64, .n .u64, .n .u64, .n .u64, .n .u64, .n .u64, .n .u64, .n .u64, .n .u64, .n .u64, .n .u64, .n .u64, .n .u64, .n .i64, .n .i64, .n .i64, .n .i64, .n .i64, .n .i64, .n .i64, .n .i64, .n .i64] 16 [.n .i64, .n .u64] 2 false true, .no]⟩
noncomputable def osh_rappend : FSh := ⟨[.v false [.k (.n .i64)]], [.cells [.sw 1 25, .k .b, .k .b, .k (.n .i64), .k (.n .i64)], .nrows [.n .u64, .n .u64, .n .u64, .n .u64, .n .u64, .n .u64, .n .u64, .n .u64, .n .u64, .n .u64, .n .u64, .n .u64, .n .u64, .n .u64, .n .u64, .n .u64, .n .i64, .n .i64, .n .i64, .n .i64, .n .i64, .n .i64, .n .i64, .n .i64, .n .i64] 16 [.n .i64, .n .u64] 3 false true, .no, .no]⟩
noncomputable def T_rappend (x0 : Int) (x1 : Int) (x2 : Int) (x3 : Int) (x4 : Int) (x5 : Int) (x6 : Bool) (x7 : Bool) (x8 : Int) (x9 : Int) (n10 : Nat) (g10 : Nat → Nat → Int) (h10 : Nat → Nat → Int) : Tr (List At) :=
 .br 25 (Go.Proofs.Ythpcjcdiaifoiaa.G.faC { n := n10, g := g10, h := h10, off := x6, burns := x7, left := x8, steps := x9 } x0 x1 != (0 : Int))
 (.ok [(.i (Go.Proofs.Ythpcjcdiaifoiaa.G.faC { n := n10, g := g10, h := h10, off := x6, burns := x7, left := x8, steps := x9 } x0 x1)), (.b (x6)), (.b (x7)), (.i (x8)), (.i (x9)), (.q (n10) (g10) ((16 : Nat)) ((2 : Nat)) (h10))])
 (.br 0 (Go.Proofs.Ythpcjcdiaifoiaa.G.ok_lLine x2 x3 x4 x5)
 (.br 33 (Go.Proofs.Ythpcjcdiaifoiaa.G.r_lLine_8 x2 x3 x4 x5 != (0 : Int))
 (.ok [(.i (Go.Proofs.Ythpcjcdiaifoiaa.G.r_lLine_8 x2 x3 x4 x5)), (.b (x6)), (.b (x7)), (.i (x8)), (.i (x9)), (.q (n10) (g10) ((16 : Nat)) ((2 : Nat)) (h10))])
 (.br 0 (Go.Proofs.Ythpcjcdiaifoiaa.G.pdec (Go.Proofs.Ythpcjcdiaifoiaa.G.Mem.Ok (900000 : Int) { n := n10, g := g10, h := h10, off := x6, burns := x7, left := x8, steps := x9 }))
 (.br 39 (Go.Proofs.Ythpcjcdiaifoiaa.G.Mem.stC { n := n10, g := g10, h := h10, off := x6, burns := x7, left := x8, steps := x9 } (Go.Proofs.Ythpcjcdiaifoiaa.G.faA { n := n10, g := g10, h := h10, off := x6, burns := x7, left := x8, steps := x9 } x0 x1) (7 : Int) != (0 : Int))
 (.ok [(.i (Go.Proofs.Ythpcjcdiaifoiaa.G.Mem.stC { n := n10, g := g10, h := h10, off := x6, burns := x7, left := x8, steps := x9 } (Go.Proofs.Ythpcjcdiaifoiaa.G.faA { n := n10, g := g10, h := h10, off := x6, burns := x7, left := x8, steps := x9 } x0 x1) (7 : Int))), (.b ((Go.Proofs.Ythpcjcdiaifoiaa.G.Mem.stM { n := n10, g := g10, h := h10, off := x6, burns := x7, left := x8, steps := x9 } (Go.Proofs.Ythpcjcdiaifoiaa.G.faA { n := n10, g := g10, h := h10, off := x6, burns := x7, left := x8, steps := x9 } x0 x1) (7 : Int) (0 : Int)).off)), (.b ((Go.Proofs.Ythpcjcdiaifoiaa.G.Mem.stM { n := n10, g := g10, h := h10, off := x6, burns := x7, left := x8, steps := x9 } (Go.Proofs.Ythpcjcdiaifoiaa.G.faA { n := n10, g := g10, h := h10, off := x6, burns := x7, left := x8, steps := x9 } x0 x1) (7 : Int) (0 : Int)).burns)), (.i ((Go.Proofs.Ythpcjcdiaifoiaa.G.Mem.stM { n := n10, g := g10, h := h10, off := x6, burns := x7, left := x8, steps := x9 } (Go.Proofs.Ythpcjcdiaifoiaa.G.faA { n := n10, g := g10, h := h10, off := x6, burns := x7, left := x8, steps := x9 } x0 x1) (7 : Int) (0 : Int)).left)), (.i ((Go.Proofs.Ythpcjcdiaifoiaa.G.Mem.stM { n := n10, g := g10, h := h10, off := x6, burns := x7, left := x8, steps := x9 } (Go.Proofs.Ythpcjcdiaifoiaa.G.faA { n := n10, g := g10, h := h10, off := x6, burns := x7, left := x8, steps := x9 } x0 x1) (7 : Int) (0 : Int)).steps)), (.q ((Go.Proofs.Ythpcjcdiaifoiaa.G.Mem.stM { n := n10, g := g10, h := h10, off := x6, burns := x7, left := x8, steps := x9 } (Go.Proofs.Ythpcjcdiaifoiaa.G.faA { n := n10, g := g10, h := h10, off := x6, burns := x7, left := x8, steps := x9 } x0 x1) (7 : Int) (0 : Int)).n) ((Go.Proofs.Ythpcjcdiaifoiaa.G.Mem.stM { n := n10, g := g10, h := h10, off := x6, burns := x7, left := x8, steps := x9 } (Go.Proofs.Ythpcjcdiaifoiaa.G.faA { n := n10, g := g10, h := h10, off := x6, burns := x7, left := x8, steps := x9 } x0 x1) (7 : Int) (0 : Int)).g) ((16 : Nat)) ((2 : Nat)) ((Go.Proofs.Ythpcjcdiaifoiaa.G.Mem.stM { n := n10, g := g10, h := h10, off := x6, burns := x7, left := x8, steps := x9 } (Go.Proofs.Ythpcjcdiaifoiaa.G.faA { n := n10, g := g10, h := h10, off := x6, burns := x7, left := x8, steps := x9 } x0 x1) (7 : Int) (0 : Int)).h))])
 (.br 0 (Go.Proofs.Ythpcjcdiaifoiaa.G.pdec (Go.Proofs.Ythpcjcdiaifoiaa.G.preW (0 : Int) (Go.Proofs.Ythpcjcdiaifoiaa.G.Mem.stM { n := n10, g := g10, h := h10, off := x6, burns := x7, left := x8, steps := x9 } (Go.Proofs.Ythpcjcdiaifoiaa.G.faA { n := n10, g := g10, h := h10, off := x6, burns := x7, left := x8, steps := x9 } x0 x1) (7 : Int) (0 : Int))))
 (.br 0 ((Go.Proofs.Ythpcjcdiaifoiaa.G.stL (fun (i : Nat) => List.getD [Go.Proofs.Ythpcjcdiaifoiaa.G.r_lLine_0 x2 x3 x4 x5, Go.Proofs.Ythpcjcdiaifoiaa.G.r_lLine_1 x2 x3 x4 x5, Go.Proofs.Ythpcjcdiaifoiaa.G.r_lLine_2 x2 x3 x4 x5, Go.Proofs.Ythpcjcdiaifoiaa.G.r_lLine_3 x2 x3 x4 x5, Go.Proofs.Ythpcjcdiaifoiaa.G.r_lLine_4 x2 x3 x4 x5, Go.Proofs.Ythpcjcdiaifoiaa.G.r_lLine_5 x2 x3 x4 x5, Go.Proofs.Ythpcjcdiaifoiaa.G.r_lLine_6 x2 x3 x4 x5, Go.Proofs.Ythpcjcdiaifoiaa.G.r_lLine_7 x2 x3 x4 x5] i (0 : Int)) (Go.Proofs.Ythpcjcdiaifoiaa.G.faA { n := n10, g := g10, h := h10, off := x6, burns := x7, left := x8, steps := x9 } x0 x1) (8 : Nat) (0 : Nat) (Go.Proofs.Ythpcjcdiaifoiaa.G.Mem.stM { n := n10, g := g10, h := h10, off := x6, burns := x7, left := x8, steps := x9 } (Go.Proofs.Ythpcjcdiaifoiaa.G.faA { n := n10, g := g10, h := h10, off := x6, burns := x7, left := x8, steps := x9 } x0 x1) (7 : Int) (0 : Int))).snd != (0 : Int))
 (.ok [(.i ((Go.Proofs.Ythpcjcdiaifoiaa.G.stL (fun (i : Nat) => List.getD [Go.Proofs.Ythpcjcdiaifoiaa.G.r_lLine_0 x2 x3 x4 x5, Go.Proofs.Ythpcjcdiaifoiaa.G.r_lLine_1 x2 x3 x4 x5, Go.Proofs.Ythpcjcdiaifoiaa.G.r_lLine_2 x2 x3 x4 x5, Go.Proofs.Ythpcjcdiaifoiaa.G.r_lLine_3 x2 x3 x4 x5, Go.Proofs.Ythpcjcdiaifoiaa.G.r_lLine_4 x2 x3 x4 x5, Go.Proofs.Ythpcjcdiaifoiaa.G.r_lLine_5 x2 x3 x4 x5, Go.Proofs.Ythpcjcdiaifoiaa.G.r_lLine_6 x2 x3 x4 x5, Go.Proofs.Ythpcjcdiaifoiaa.G.r_lLine_7 x2 x3 x4 x5] i (0 : Int)) (Go.Proofs.Ythpcjcdiaifoiaa.G.faA { n := n10, g := g10, h := h10, off := x6, burns := x7, left := x8, steps := x9 } x0 x1) (8 : Nat) (0 : Nat) (Go.Proofs.Ythpcjcdiaifoiaa.G.Mem.stM { n := n10, g := g10, h := h10, off := x6, burns := x7, left := x8, steps := x9 } (Go.Proofs.Ythpcjcdiaifoiaa.G.faA { n := n10, g := g10, h := h10, off := x6, burns := x7, left := x8, steps := x9 } x0 x1) (7 : Int) (0 : Int))).snd)), (.b ((Go.Proofs.Ythpcjcdiaifoiaa.G.stL (fun (i : Nat) => List.getD [Go.Proofs.Ythpcjcdiaifoiaa.G.r_lLine_0 x2 x3 x4 x5, Go.Proofs.Ythpcjcdiaifoiaa.G.r_lLine_1 x2 x3 x4 x5, Go.Proofs.Ythpcjcdiaifoiaa.G.r_lLine_2 x2 x3 x4 x5, Go.Proofs.Ythpcjcdiaifoiaa.G.r_lLine_3 x2 x3 x4 x5, Go.Proofs.Ythpcjcdiaifoiaa.G.r_lLine_4 x2 x3 x4 x5, Go.Proofs.Ythpcjcdiaifoiaa.G.r_lLine_5 x2 x3 x4 x5, Go.Proofs.Ythpcjcdiaifoiaa.G.r_lLine_6 x2 x3 x4 x5, Go.Proofs.Ythpcjcdiaifoiaa.G.r_lLine_7 x2 x3 x4 x5] i (0 : Int)) (Go.Proofs.Ythpcjcdiaifoiaa.G.faA { n := n10, g := g10, h := h10, off := x6, burns := x7, left := x8, steps := x9 } x0 x1) (8 : Nat) (0 : Nat) (Go.Proofs.Ythpcjcdiaifoiaa.G.Mem.stM { n := n10, g := g10, h := h10, off := x6, burns := x7, left := x8, steps := x9 } (Go.Proofs.Ythpcjcdiaifoiaa.G.faA { n := n10, g := g10, h := h10, off := x6, burns := x7, left := x8, steps := x9 } x0 x1) (7 : Int) (0 : Int))).fst.off)), (.b ((Go.Proofs.Ythpcjcdiaifoiaa.G.stL (fun (i : Nat) => List.getD [Go.Proofs.Ythpcjcdiaifoiaa.G.r_lLine_0 x2 x3 x4 x5, Go.Proofs.Ythpcjcdiaifoiaa.G.r_lLine_1 x2 x3 x4 x5, Go.Proofs.Ythpcjcdiaifoiaa.G.r_lLine_2 x2 x3 x4 x5, Go.Proofs.Ythpcjcdiaifoiaa.G.r_lLine_3 x2 x3 x4 x5, Go.Proofs.Ythpcjcdiaifoiaa.G.r_lLine_4 x2 x3 x4 x5, Go.Proofs.Ythpcjcdiaifoiaa.G.r_lLine_5 x2 x3 x4 x5, Go.Proofs.Ythpcjcdiaifoiaa.G.r_lLine_6 x2 x3 x4 x5, Go.Proofs.Ythpcjcdiaifoiaa.G.r_lLine_7 x2 x3 x4 x5] i (0 : Int)) (Go.Proofs.Ythpcjcdiaifoiaa.G.faA { n := n10, g := g10, h := h10, off := x6, burns := x7, left := x8, steps := x9 } x0 x1) (8 : Nat) (0 : Nat) (Go.Proofs.Ythpcjcdiaifoiaa.G.Mem.stM { n := n10, g := g10, h := h10, off := x6, burns := x7, left := x8, steps := x9 } (Go.Proofs.Ythpcjcdiaifoiaa.G.faA { n := n10, g := g10, h := h10, off := x6, burns := x7, left := x8, steps := x9 } x0 x1) (7 : Int) (0 : Int))).fst.burns)), (.i ((Go.Proofs.Ythpcjcdiaifoiaa.G.stL (fun (i : Nat) => List.getD [Go.Proofs.Ythpcjcdiaifoiaa.G.r_lLine_0 x2 x3 x4 x5, Go.Proofs.Ythpcjcdiaifoiaa.G.r_lLine_1 x2 x3 x4 x5, Go.Proofs.Ythpcjcdiaifoiaa.G.r_lLine_2 x2 x3 x4 x5, Go.Proofs.Ythpcjcdiaifoiaa.G.r_lLine_3 x2 x3 x4 x5, Go.Proofs.Ythpcjcdiaifoiaa.G.r_lLine_4 x2 x3 x4 x5, Go.Proofs.Ythpcjcdiaifoiaa.G.r_lLine_5 x2 x3 x4 x5, Go.Proofs.Ythpcjcdiaifoiaa.G.r_lLine_6 x2 x3 x4 x5, Go.Proofs.Ythpcjcdiaifoiaa.G.r_lLine_7 x2 x3 x4 x5] i (0 : Int)) (Go.Proofs.Ythpcjcdiaifoiaa.G.faA { n := n10, g := g10, h := h10, off := x6, burns := x7, left := x8, steps := x9 } x0 x1) (8 : Nat) (0 : Nat) (Go.Proofs.Ythpcjcdiaifoiaa.G.Mem.stM { n := n10, g := g10, h := h10, off := x6, burns := x7, left := x8, steps := x9 } (Go.Proofs.Ythpcjcdiaifoiaa.G.faA { n := n10, g := g10, h := h10, off := x6, burns := x7, left := x8, steps := x9 } x0 x1) (7 : Int) (0 : Int))).fst.left)), (.i ((Go.Proofs.Ythpcjcdiaifoiaa.G.stL (fun (i : Nat) => List.getD [Go.Proofs.Ythpcjcdiaifoiaa.G.r_lLine_0 x2 x3 x4 x5, Go.Proofs.Ythpcjcdiaifoiaa.G.r_lLine_1 x2 x3 x4 x5, Go.Proofs.Ythpcjcdiaifoiaa.G.r_lLine_2 x2 x3 x4 x5, Go.Proofs.Ythpcjcdiaifoiaa.G.r_lLine_3 x2 x3 x4 x5, Go.Proofs.Ythpcjcdiaifoiaa.G.r_lLine_4 x2 x3 x4 x5, Go.Proofs.Ythpcjcdiaifoiaa.G.r_lLine_5 x2 x3 x4 x5, Go.Proofs.Ythpcjcdiaifoiaa.G.r_lLine_6 x2 x3 x4 x5, Go.Proofs.Ythpcjcdiaifoiaa.G.r_lLine_7 x2 x3 x4 x5] i (0 : Int)) (Go.Proofs.Ythpcjcdiaifoiaa.G.faA { n := n10, g := g10, h := h10, off := x6, burns := x7, left := x8, steps := x9 } x0 x1) (8 : Nat) (0 : Nat) (Go.Proofs.Ythpcjcdiaifoiaa.G.Mem.stM { n := n10, g := g10, h := h10, off := x6, burns := x7, left := x8, steps := x9 } (Go.Proofs.Ythpcjcdiaifoiaa.G.faA { n := n10, g := g10, h := h10, off := x6, burns := x7, left := x8, steps := x9 } x0 x1) (7 : Int) (0 : Int))).fst.steps)), (.q ((Go.Proofs.Ythpcjcdiaifoiaa.G.stL (fun (i : Nat) => List.getD [Go.Proofs.Ythpcjcdiaifoiaa.G.r_lLine_0 x2 x3 x4 x5, Go.Proofs.Ythpcjcdiaifoiaa.G.r_lLine_1 x2 x3 x4 x5, Go.Proofs.Ythpcjcdiaifoiaa.G.r_lLine_2 x2 x3 x4 x5, Go.Proofs.Ythpcjcdiaifoiaa.G.r_lLine_3 x2 x3 x4 x5, Go.Proofs.Ythpcjcdiaifoiaa.G.r_lLine_4 x2 x3 x4 x5, Go.Proofs.Ythpcjcdiaifoiaa.G.r_lLine_5 x2 x3 x4 x5, Go.Proofs.Ythpcjcdiaifoiaa.G.r_lLine_6 x2 x3 x4 x5, Go.Proofs.Ythpcjcdiaifoiaa.G.r_lLine_7 x2 x3 x4 x5] i (0 : Int)) (Go.Proofs.Ythpcjcdiaifoiaa.G.faA { n := n10, g := g10, h := h10, off := x6, burns := x7, left := x8, steps := x9 } x0 x1) (8 : Nat) (0 : Nat) (Go.Proofs.Ythpcjcdiaifoiaa.G.Mem.stM { n := n10, g := g10, h := h10, off := x6, burns := x7, left := x8, steps := x9 } (Go.Proofs.Ythpcjcdiaifoiaa.G.faA { n := n10, g := g10, h := h10, off := x6, burns := x7, left := x8, steps := x9 } x0 x1) (7 : Int) (0 : Int))).fst.n) ((Go.Proofs.Ythpcjcdiaifoiaa.G.stL (fun (i : Nat) => List.getD [Go.Proofs.Ythpcjcdiaifoiaa.G.r_lLine_0 x2 x3 x4 x5, Go.Proofs.Ythpcjcdiaifoiaa.G.r_lLine_1 x2 x3 x4 x5, Go.Proofs.Ythpcjcdiaifoiaa.G.r_lLine_2 x2 x3 x4 x5, Go.Proofs.Ythpcjcdiaifoiaa.G.r_lLine_3 x2 x3 x4 x5, Go.Proofs.Ythpcjcdiaifoiaa.G.r_lLine_4 x2 x3 x4 x5, Go.Proofs.Ythpcjcdiaifoiaa.G.r_lLine_5 x2 x3 x4 x5, Go.Proofs.Ythpcjcdiaifoiaa.G.r_lLine_6 x2 x3 x4 x5, Go.Proofs.Ythpcjcdiaifoiaa.G.r_lLine_7 x2 x3 x4 x5] i (0 : Int)) (Go.Proofs.Ythpcjcdiaifoiaa.G.faA { n := n10, g := g10, h := h10, off := x6, burns := x7, left := x8, steps := x9 } x0 x1) (8 : Nat) (0 : Nat) (Go.Proofs.Ythpcjcdiaifoiaa.G.Mem.stM { n := n10, g := g10, h := h10, off := x6, burns := x7, left := x8, steps := x9 } (Go.Proofs.Ythpcjcdiaifoiaa.G.faA { n := n10, g := g10, h := h10, off := x6, burns := x7, left := x8, steps := x9 } x0 x1) (7 : Int) (0 : Int))).fst.g) ((16 : Nat)) ((2 : Nat)) ((Go.Proofs.Ythpcjcdiaifoiaa.G.stL (fun (i : Nat) => List.getD [Go.Proofs.Ythpcjcdiaifoiaa.G.r_lLine_0 x2 x3 x4 x5, Go.Proofs.Ythpcjcdiaifoiaa.G.r_lLine_1 x2 x3 x4 x5, Go.Proofs.Ythpcjcdiaifoiaa.G.r_lLine_2 x2 x3 x4 x5, Go.Proofs.Ythpcjcdiaifoiaa.G.r_lLine_3 x2 x3 x4 x5, Go.Proofs.Ythpcjcdiaifoiaa.G.r_lLine_4 x2 x3 x4 x5, Go.Proofs.Ythpcjcdiaifoiaa.G.r_lLine_5 x2 x3 x4 x5, Go.Proofs.Ythpcjcdiaifoiaa.G.r_lLine_6 x2 x3 x4 x5, Go.Proofs.Ythpcjcdiaifoiaa.G.r_lLine_7 x2 x3 x4 x5] i (0 : Int)) (Go.Proofs.Ythpcjcdiaifoiaa.G.faA { n := n10, g := g10, h := h10, off := x6, burns := x7, left := x8, steps := x9 } x0 x1) (8 : Nat) (0 : Nat) (Go.Proofs.Ythpcjcdiaifoiaa.G.Mem.stM { n := n10, g := g10, h := h10, off := x6, burns := x7, left := x8, steps := x9 } (Go.Proofs.Ythpcjcdiaifoiaa.G.faA { n := n10, g := g10, h := h10, off := x6, burns := x7, left := x8, steps := x9 } x0 x1) (7 : Int) (0 : Int))).fst.h))])
 (.br 0 (Go.Proofs.Ythpcjcdiaifoiaa.G.pdec (Go.Proofs.Ythpcjcdiaifoiaa.G.Mem.Ok (900000 : Int) (Go.Proofs.Ythpcjcdiaifoiaa.G.stL (fun (i : Nat) => List.getD [Go.Proofs.Ythpcjcdiaifoiaa.G.r_lLine_0 x2 x3 x4 x5, Go.Proofs.Ythpcjcdiaifoiaa.G.r_lLine_1 x2 x3 x4 x5, Go.Proofs.Ythpcjcdiaifoiaa.G.r_lLine_2 x2 x3 x4 x5, Go.Proofs.Ythpcjcdiaifoiaa.G.r_lLine_3 x2 x3 x4 x5, Go.Proofs.Ythpcjcdiaifoiaa.G.r_lLine_4 x2 x3 x4 x5, Go.Proofs.Ythpcjcdiaifoiaa.G.r_lLine_5 x2 x3 x4 x5, Go.Proofs.Ythpcjcdiaifoiaa.G.r_lLine_6 x2 x3 x4 x5, Go.Proofs.Ythpcjcdiaifoiaa.G.r_lLine_7 x2 x3 x4 x5] i (0 : Int)) (Go.Proofs.Ythpcjcdiaifoiaa.G.faA { n := n10, g := g10, h := h10, off := x6, burns := x7, left := x8, steps := x9 } x0 x1) (8 : Nat) (0 : Nat) (Go.Proofs.Ythpcjcdiaifoiaa.G.Mem.stM { n := n10, g := g10, h := h10, off := x6, burns := x7, left := x8, steps := x9 } (Go.Proofs.Ythpcjcdiaifoiaa.G.faA { n := n10, g := g10, h := h10, off := x6, burns := x7, left := x8, steps := x9 } x0 x1) (7 : Int) (0 : Int))).fst))
 (.br 60 (Go.Proofs.Ythpcjcdiaifoiaa.G.Mem.stC (Go.Proofs.Ythpcjcdiaifoiaa.G.stL (fun (i : Nat) => List.getD [Go.Proofs.Ythpcjcdiaifoiaa.G.r_lLine_0 x2 x3 x4 x5, Go.Proofs.Ythpcjcdiaifoiaa.G.r_lLine_1 x2 x3 x4 x5, Go.Proofs.Ythpcjcdiaifoiaa.G.r_lLine_2 x2 x3 x4 x5, Go.Proofs.Ythpcjcdiaifoiaa.G.r_lLine_3 x2 x3 x4 x5, Go.Proofs.Ythpcjcdiaifoiaa.G.r_lLine_4 x2 x3 x4 x5, Go.Proofs.Ythpcjcdiaifoiaa.G.r_lLine_5 x2 x3 x4 x5, Go.Proofs.Ythpcjcdiaifoiaa.G.r_lLine_6 x2 x3 x4 x5, Go.Proofs.Ythpcjcdiaifoiaa.G.r_lLine_7 x2 x3 x4 x5] i (0 : Int)) (Go.Proofs.Ythpcjcdiaifoiaa.G.faA { n := n10, g := g10, h := h10, off := x6, burns := x7, left := x8, steps := x9 } x0 x1) (8 : Nat) (0 : Nat) (Go.Proofs.Ythpcjcdiaifoiaa.G.Mem.stM { n := n10, g := g10, h := h10, off := x6, burns := x7, left := x8, steps := x9 } (Go.Proofs.Ythpcjcdiaifoiaa.G.faA { n := n10, g := g10, h := h10, off := x6, burns := x7, left := x8, steps := x9 } x0 x1) (7 : Int) (0 : Int))).fst (Go.Proofs.Ythpcjcdiaifoiaa.G.faA { n := n10, g := g10, h := h10, off := x6, burns := x7, left := x8, steps := x9 } x0 x1) x0 != (0 : Int))
 (.ok [(.i (Go.Proofs.Ythpcjcdiaifoiaa.G.Mem.stC (Go.Proofs.Ythpcjcdiaifoiaa.G.stL (fun (i : Nat) => List.getD [Go.Proofs.Ythpcjcdiaifoiaa.G.r_lLine_0 x2 x3 x4 x5, Go.Proofs.Ythpcjcdiaifoiaa.G.r_lLine_1 x2 x3 x4 x5, Go.Proofs.Ythpcjcdiaifoiaa.G.r_lLine_2 x2 x3 x4 x5, Go.Proofs.Ythpcjcdiaifoiaa.G.r_lLine_3 x2 x3 x4 x5, Go.Proofs.Ythpcjcdiaifoiaa.G.r_lLine_4 x2 x3 x4 x5, Go.Proofs.Ythpcjcdiaifoiaa.G.r_lLine_5 x2 x3 x4 x5, Go.Proofs.Ythpcjcdiaifoiaa.G.r_lLine_6 x2 x3 x4 x5, Go.Proofs.Ythpcjcdiaifoiaa.G.r_lLine_7 x2 x3 x4 x5] i (0 : Int)) (Go.Proofs.Ythpcjcdiaifoiaa.G.faA { n := n10, g := g10, h := h10, off := x6, burns := x7, left := x8, steps := x9 } x0 x1) (8 : Nat) (0 : Nat) (Go.Proofs.Ythpcjcdiaifoiaa.G.Mem.stM { n := n10, g := g10, h := h10, off := x6, burns := x7, left := x8, steps := x9 } (Go.Proofs.Ythpcjcdiaifoiaa.G.faA { n := n10, g := g10, h := h10, off := x6, burns := x7, left := x8, steps := x9 } x0 x1) (7 : Int) (0 : Int))).fst (Go.Proofs.Ythpcjcdiaifoiaa.G.faA { n := n10, g := g10, h := h10, off := x6, burns := x7, left := x8, steps := x9 } x0 x1) x0)), (.b ((Go.Proofs.Ythpcjcdiaifoiaa.G.Mem.flM (Go.Proofs.Ythpcjcdiaifoiaa.G.stL (fun (i : Nat) => List.getD [Go.Proofs.Ythpcjcdiaifoiaa.G.r_lLine_0 x2 x3 x4 x5, Go.Proofs.Ythpcjcdiaifoiaa.G.r_lLine_1 x2 x3 x4 x5, Go.Proofs.Ythpcjcdiaifoiaa.G.r_lLine_2 x2 x3 x4 x5, Go.Proofs.Ythpcjcdiaifoiaa.G.r_lLine_3 x2 x3 x4 x5, Go.Proofs.Ythpcjcdiaifoiaa.G.r_lLine_4 x2 x3 x4 x5, Go.Proofs.Ythpcjcdiaifoiaa.G.r_lLine_5 x2 x3 x4 x5, Go.Proofs.Ythpcjcdiaifoiaa.G.r_lLine_6 x2 x3 x4 x5, Go.Proofs.Ythpcjcdiaifoiaa.G.r_lLine_7 x2 x3 x4 x5] i (0 : Int)) (Go.Proofs.Ythpcjcdiaifoiaa.G.faA { n := n10, g := g10, h := h10, off := x6, burns := x7, left := x8, steps := x9 } x0 x1) (8 : Nat) (0 : Nat) (Go.Proofs.Ythpcjcdiaifoiaa.G.Mem.stM { n := n10, g := g10, h := h10, off := x6, burns := x7, left := x8, steps := x9 } (Go.Proofs.Ythpcjcdiaifoiaa.G.faA { n := n10, g := g10, h := h10, off := x6, burns := x7, left := x8, steps := x9 } x0 x1) (7 : Int) (0 : Int))).fst x0 (Go.Proofs.Ythpcjcdiaifoiaa.G.faA { n := n10, g := g10, h := h10, off := x6, burns := x7, left := x8, steps := x9 } x0 x1)).off)), (.b ((Go.Proofs.Ythpcjcdiaifoiaa.G.Mem.flM (Go.Proofs.Ythpcjcdiaifoiaa.G.stL (fun (i : Nat) => List.getD [Go.Proofs.Ythpcjcdiaifoiaa.G.r_lLine_0 x2 x3 x4 x5, Go.Proofs.Ythpcjcdiaifoiaa.G.r_lLine_1 x2 x3 x4 x5, Go.Proofs.Ythpcjcdiaifoiaa.G.r_lLine_2 x2 x3 x4 x5, Go.Proofs.Ythpcjcdiaifoiaa.G.r_lLine_3 x2 x3 x4 x5, Go.Proofs.Ythpcjcdiaifoiaa.G.r_lLine_4 x2 x3 x4 x5, Go.Proofs.Ythpcjcdiaifoiaa.G.r_lLine_5 x2 x3 x4 x5, Go.Proofs.Ythpcjcdiaifoiaa.G.r_lLine_6 x2 x3 x4 x5, Go.Proofs.Ythpcjcdiaifoiaa.G.r_lLine_7 x2 x3 x4 x5] i (0 : Int)) (Go.Proofs.Ythpcjcdiaifoiaa.G.faA { n := n10, g := g10, h := h10, off := x6, burns := x7, left := x8, steps := x9 } x0 x1) (8 : Nat) (0 : Nat) (Go.Proofs.Ythpcjcdiaifoiaa.G.Mem.stM { n := n10, g := g10, h := h10, off := x6, burns := x7, left := x8, steps := x9 } (Go.Proofs.Ythpcjcdiaifoiaa.G.faA { n := n10, g := g10, h := h10, off := x6, burns := x7, left := x8, steps := x9 } x0 x1) (7 : Int) (0 : Int))).fst x0 (Go.Proofs.Ythpcjcdiaifoiaa.G.faA { n := n10, g := g10, h := h10, off := x6, burns := x7, left := x8, steps := x9 } x0 x1)).burns)), (.i ((Go.Proofs.Ythpcjcdiaifoiaa.G.Mem.flM (Go.Proofs.Ythpcjcdiaifoiaa.G.stL (fun (i : Nat) => List.getD [Go.Proofs.Ythpcjcdiaifoiaa.G.r_lLine_0 x2 x3 x4 x5, Go.Proofs.Ythpcjcdiaifoiaa.G.r_lLine_1 x2 x3 x4 x5, Go.Proofs.Ythpcjcdiaifoiaa.G.r_lLine_2 x2 x3 x4 x5, Go.Proofs.Ythpcjcdiaifoiaa.G.r_lLine_3 x2 x3 x4 x5, Go.Proofs.Ythpcjcdiaifoiaa.G.r_lLine_4 x2 x3 x4 x5, Go.Proofs.Ythpcjcdiaifoiaa.G.r_lLine_5 x2 x3 x4 x5, Go.Proofs.Ythpcjcdiaifoiaa.G.r_lLine_6 x2 x3 x4 x5, Go.Proofs.Ythpcjcdiaifoiaa.G.r_lLine_7 x2 x3 x4 x5] i (0 : Int)) (Go.Proofs.Ythpcjcdiaifoiaa.G.faA { n := n10, g := g10, h := h10, off := x6, burns := x7, left := x8, steps := x9 } x0 x1) (8 : Nat) (0 : Nat) (Go.Proofs.Ythpcjcdiaifoiaa.G.Mem.stM { n := n10, g := g10, h := h10, off := x6, burns := x7, left := x8, steps := x9 } (Go.Proofs.Ythpcjcdiaifoiaa.G.faA { n := n10, g := g10, h := h10, off := x6, burns := x7, left := x8, steps := x9 } x0 x1) (7 : Int) (0 : Int))).fst x0 (Go.Proofs.Ythpcjcdiaifoiaa.G.faA { n := n10, g := g10, h := h10, off := x6, burns := x7, left := x8, steps := x9 } x0 x1)).left)), (.i ((Go.Proofs.Ythpcjcdiaifoiaa.G.Mem.flM (Go.Proofs.Ythpcjcdiaifoiaa.G.stL (fun (i : Nat) => List.getD [Go.Proofs.Ythpcjcdiaifoiaa.G.r_lLine_0 x2 x3 x4 x5, Go.Proofs.Ythpcjcdiaifoiaa.G.r_lLine_1 x2 x3 x4 x5, Go.Proofs.Ythpcjcdiaifoiaa.G.r_lLine_2 x2 x3 x4 x5, Go.Proofs.Ythpcjcdiaifoiaa.G.r_lLine_3 x2 x3 x4 x5, Go.Proofs.Ythpcjcdiaifoiaa.G.r_lLine_4 x2 x3 x4 x5, Go.Proofs.Ythpcjcdiaifoiaa.G.r_lLine_5 x2 x3 x4 x5, Go.Proofs.Ythpcjcdiaifoiaa.G.r_lLine_6 x2 x3 x4 x5, Go.Proofs.Ythpcjcdiaifoiaa.G.r_lLine_7 x2 x3 x4 x5] i (0 : Int)) (Go.Proofs.Ythpcjcdiaifoiaa.G.faA { n := n10, g := g10, h := h10, off := x6, burns := x7, left := x8, steps := x9 } x0 x1) (8 : Nat) (0 : Nat) (Go.Proofs.Ythpcjcdiaifoiaa.G.Mem.stM { n := n10, g := g10, h := h10, off := x6, burns := x7, left := x8, steps := x9 } (Go.Proofs.Ythpcjcdiaifoiaa.G.faA { n := n10, g := g10, h := h10, off := x6, burns := x7, left := x8, steps := x9 } x0 x1) (7 : Int) (0 : Int))).fst x0 (Go.Proofs.Ythpcjcdiaifoiaa.G.faA { n := n10, g := g10, h := h10, off := x6, burns := x7, left := x8, steps := x9 } x0 x1)).steps)), (.q ((Go.Proofs.Ythpcjcdiaifoiaa.G.Mem.flM (Go.Proofs.Ythpcjcdiaifoiaa.G.stL (fun (i : Nat) => List.getD [Go.Proofs.Ythpcjcdiaifoiaa.G.r_lLine_0 x2 x3 x4 x5, Go.Proofs.Ythpcjcdiaifoiaa.G.r_lLine_1 x2 x3 x4 x5, Go.Proofs.Ythpcjcdiaifoiaa.G.r_lLine_2 x2 x3 x4 x5, Go.Proofs.Ythpcjcdiaifoiaa.G.r_lLine_3 x2 x3 x4 x5, Go.Proofs.Ythpcjcdiaifoiaa.G.r_lLine_4 x2 x3 x4 x5, Go.Proofs.Ythpcjcdiaifoiaa.G.r_lLine_5 x2 x3 x4 x5, Go.Proofs.Ythpcjcdiaifoiaa.G.r_lLine_6 x2 x3 x4 x5, Go.Proofs.Ythpcjcdiaifoiaa.G.r_lLine_7 x2 x3 x4 x5] i (0 : Int)) (Go.Proofs.Ythpcjcdiaifoiaa.G.faA { n := n10, g := g10, h := h10, off := x6, burns := x7, left := x8, steps := x9 } x0 x1) (8 : Nat) (0 : Nat) (Go.Proofs.Ythpcjcdiaifoiaa.G.Mem.stM { n := n10, g := g10, h := h10, off := x6, burns := x7, left := x8, steps := x9 } (Go.Proofs.Ythpcjcdiaifoiaa.G.faA { n := n10, g := g10, h := h10, off := x6, burns := x7, left := x8, steps := x9 } x0 x1) (7 : Int) (0 : Int))).fst x0 (Go.Proofs.Ythpcjcdiaifoiaa.G.faA { n := n10, g := g10, h := h10, off := x6, burns := x7, left := x8, steps := x9 } x0 x1)).n) ((Go.Proofs.Ythpcjcdiaifoiaa.G.Mem.flM (Go.Proofs.Ythpcjcdiaifoiaa.G.stL (fun (i : Nat) => List.getD [Go.Proofs.Ythpcjcdiaifoiaa.G.r_lLine_0 x2 x3 x4 x5, Go.Proofs.Ythpcjcdiaifoiaa.G.r_lLine_1 x2 x3 x4 x5, Go.Proofs.Ythpcjcdiaifoiaa.G.r_lLine_2 x2 x3 x4 x5, Go.Proofs.Ythpcjcdiaifoiaa.G.r_lLine_3 x2 x3 x4 x5, Go.Proofs.Ythpcjcdiaifoiaa.G.r_lLine_4 x2 x3 x4 x5, Go.Proofs.Ythpcjcdiaifoiaa.G.r_lLine_5 x2 x3 x4 x5, Go.Proofs.Ythpcjcdiaifoiaa.G.r_lLine_6 x2 x3 x4 x5, Go.Proofs.Ythpcjcdiaifoiaa.G.r_lLine_7 x2 x3 x4 x5] i (0 : Int)) (Go.Proofs.Ythpcjcdiaifoiaa.G.faA { n := n10, g := g10, h := h10, off := x6, burns := x7, left := x8, steps := x9 } x0 x1) (8 : Nat) (0 : Nat) (Go.Proofs.Ythpcjcdiaifoiaa.G.Mem.stM { n := n10, g := g10, h := h10, off := x6, burns := x7, left := x8, steps := x9 } (Go.Proofs.Ythpcjcdiaifoiaa.G.faA { n := n10, g := g10, h := h10, off := x6, burns := x7, left := x8, steps := x9 } x0 x1) (7 : Int) (0 : Int))).fst x0 (Go.Proofs.Ythpcjcdiaifoiaa.G.faA { n := n10, g := g10, h := h10, off := x6, burns := x7, left := x8, steps := x9 } x0 x1)).g) ((16 : Nat)) ((2 : Nat)) ((Go.Proofs.Ythpcjcdiaifoiaa.G.Mem.flM (Go.Proofs.Ythpcjcdiaifoiaa.G.stL (fun (i : Nat) => List.getD [Go.Proofs.Ythpcjcdiaifoiaa.G.r_lLine_0 x2 x3 x4 x5, Go.Proofs.Ythpcjcdiaifoiaa.G.r_lLine_1 x2 x3 x4 x5, Go.Proofs.Ythpcjcdiaifoiaa.G.r_lLine_2 x2 x3 x4 x5, Go.Proofs.Ythpcjcdiaifoiaa.G.r_lLine_3 x2 x3 x4 x5, Go.Proofs.Ythpcjcdiaifoiaa.G.r_lLine_4 x2 x3 x4 x5, Go.Proofs.Ythpcjcdiaifoiaa.G.r_lLine_5 x2 x3 x4 x5, Go.Proofs.Ythpcjcdiaifoiaa.G.r_lLine_6 x2 x3 x4 x5, Go.Proofs.Ythpcjcdiaifoiaa.G.r_lLine_7 x2 x3 x4 x5] i (0 : Int)) (Go.Proofs.Ythpcjcdiaifoiaa.G.faA { n := n10, g := g10, h := h10, off := x6, burns := x7, left := x8, steps := x9 } x0 x1) (8 : Nat) (0 : Nat) (Go.Proofs.Ythpcjcdiaifoiaa.G.Mem.stM { n := n10, g := g10, h := h10, off := x6, burns := x7, left := x8, steps := x9 } (Go.Proofs.Ythpcjcdiaifoiaa.G.faA { n := n10, g := g10, h := h10, off := x6, burns := x7, left := x8, steps := x9 } x0 x1) (7 : Int) (0 : Int))).fst x0 (Go.Proofs.Ythpcjcdiaifoiaa.G.faA { n := n10, g := g10, h := h10, off := x6, burns := x7, left := x8, steps := x9 } x0 x1)).h))])
 (.br 0 (Go.Proofs.Ythpcjcdiaifoiaa.G.pdec (Go.Proofs.Ythpcjcdiaifoiaa.G.Mem.Ok (900000 : Int) (Go.Proofs.Ythpcjcdiaifoiaa.G.Mem.flM (Go.Proofs.Ythpcjcdiaifoiaa.G.stL (fun (i : Nat) => List.getD [Go.Proofs.Ythpcjcdiaifoiaa.G.r_lLine_0 x2 x3 x4 x5, Go.Proofs.Ythpcjcdiaifoiaa.G.r_lLine_1 x2 x3 x4 x5, Go.Proofs.Ythpcjcdiaifoiaa.G.r_lLine_2 x2 x3 x4 x5, Go.Proofs.Ythpcjcdiaifoiaa.G.r_lLine_3 x2 x3 x4 x5, Go.Proofs.Ythpcjcdiaifoiaa.G.r_lLine_4 x2 x3 x4 x5, Go.Proofs.Ythpcjcdiaifoiaa.G.r_lLine_5 x2 x3 x4 x5, Go.Proofs.Ythpcjcdiaifoiaa.G.r_lLine_6 x2 x3 x4 x5, Go.Proofs.Ythpcjcdiaifoiaa.G.r_lLine_7 x2 x3 x4 x5] i (0 : Int)) (Go.Proofs.Ythpcjcdiaifoiaa.G.faA { n := n10, g := g10, h := h10, off := x6, burns := x7, left := x8, steps := x9 } x0 x1) (8 : Nat) (0 : Nat) (Go.Proofs.Ythpcjcdiaifoiaa.G.Mem.stM { n := n10, g := g10, h := h10, off := x6, burns := x7, left := x8, steps := x9 } (Go.Proofs.Ythpcjcdiaifoiaa.G.faA { n := n10, g := g10, h := h10, off := x6, burns := x7, left := x8, steps := x9 } x0 x1) (7 : Int) (0 : Int))).fst x0 (Go.Proofs.Ythpcjcdiaifoiaa.G.faA { n := n10, g := g10, h := h10, off := x6, burns := x7, left := x8, steps := x9 } x0 x1))))
 (.ok [(.i (Go.Proofs.Ythpcjcdiaifoiaa.G.Mem.feC (Go.Proofs.Ythpcjcdiaifoiaa.G.Mem.flM (Go.Proofs.Ythpcjcdiaifoiaa.G.stL (fun (i : Nat) => List.getD [Go.Proofs.Ythpcjcdiaifoiaa.G.r_lLine_0 x2 x3 x4 x5, Go.Proofs.Ythpcjcdiaifoiaa.G.r_lLine_1 x2 x3 x4 x5, Go.Proofs.Ythpcjcdiaifoiaa.G.r_lLine_2 x2 x3 x4 x5, Go.Proofs.Ythpcjcdiaifoiaa.G.r_lLine_3 x2 x3 x4 x5, Go.Proofs.Ythpcjcdiaifoiaa.G.r_lLine_4 x2 x3 x4 x5, Go.Proofs.Ythpcjcdiaifoiaa.G.r_lLine_5 x2 x3 x4 x5, Go.Proofs.Ythpcjcdiaifoiaa.G.r_lLine_6 x2 x3 x4 x5, Go.Proofs.Ythpcjcdiaifoiaa.G.r_lLine_7 x2 x3 x4 x5] i (0 : Int)) (Go.Proofs.Ythpcjcdiaifoiaa.G.faA { n := n10, g := g10, h := h10, off := x6, burns := x7, left := x8, steps := x9 } x0 x1) (8 : Nat) (0 : Nat) (Go.Proofs.Ythpcjcdiaifoiaa.G.Mem.stM { n := n10, g := g10, h := h10, off := x6, burns := x7, left := x8, steps := x9 } (Go.Proofs.Ythpcjcdiaifoiaa.G.faA { n := n10, g := g10, h := h10, off := x6, burns := x7, left := x8, steps := x9 } x0 x1) (7 : Int) (0 : Int))).fst x0 (Go.Proofs.Ythpcjcdiaifoiaa.G.faA { n := n10, g := g10, h := h10, off := x6, burns := x7, left := x8, steps := x9 } x0 x1)) x0)), (.b ((Go.Proofs.Ythpcjcdiaifoiaa.G.Mem.feM (Go.Proofs.Ythpcjcdiaifoiaa.G.Mem.flM (Go.Proofs.Ythpcjcdiaifoiaa.G.stL (fun (i : Nat) => List.getD [Go.Proofs.Ythpcjcdiaifoiaa.G.r_lLine_0 x2 x3 x4 x5, Go.Proofs.Ythpcjcdiaifoiaa.G.r_lLine_1 x2 x3 x4 x5, Go.Proofs.Ythpcjcdiaifoiaa.G.r_lLine_2 x2 x3 x4 x5, Go.Proofs.Ythpcjcdiaifoiaa.G.r_lLine_3 x2 x3 x4 x5, Go.Proofs.Ythpcjcdiaifoiaa.G.r_lLine_4 x2 x3 x4 x5, Go.Proofs.Ythpcjcdiaifoiaa.G.r_lLine_5 x2 x3 x4 x5, Go.Proofs.Ythpcjcdiaifoiaa.G.r_lLine_6 x2 x3 x4 x5, Go.Proofs.Ythpcjcdiaifoiaa.G.r_lLine_7 x2 x3 x4 x5] i (0 : Int)) (Go.Proofs.Ythpcjcdiaifoiaa.G.faA { n := n10, g := g10, h := h10, off := x6, burns := x7, left := x8, steps := x9 } x0 x1) (8 : Nat) (0 : Nat) (Go.Proofs.Ythpcjcdiaifoiaa.G.Mem.stM { n := n10, g := g10, h := h10, off := x6, burns := x7, left := x8, steps := x9 } (Go.Proofs.Ythpcjcdiaifoiaa.G.faA { n := n10, g := g10, h := h10, off := x6, burns := x7, left := x8, steps := x9 } x0 x1) (7 : Int) (0 : Int))).fst x0 (Go.Proofs.Ythpcjcdiaifoiaa.G.faA { n := n10, g := g10, h := h10, off := x6, burns := x7, left := x8, steps := x9 } x0 x1)) x0).off)), (.b ((Go.Proofs.Ythpcjcdiaifoiaa.G.Mem.feM (Go.Proofs.Ythpcjcdiaifoiaa.G.Mem.flM (Go.Proofs.Ythpcjcdiaifoiaa.G.stL (fun (i : Nat) => List.getD [Go.Proofs.Ythpcjcdiaifoiaa.G.r_lLine_0 x2 x3 x4 x5, Go.Proofs.Ythpcjcdiaifoiaa.G.r_lLine_1 x2 x3 x4 x5, Go.Proofs.Ythpcjcdiaifoiaa.G.r_lLine_2 x2 x3 x4 x5, Go.Proofs.Ythpcjcdiaifoiaa.G.r_lLine_3 x2 x3 x4 x5, Go.Proofs.Ythpcjcdiaifoiaa.G.r_lLine_4 x2 x3 x4 x5, Go.Proofs.Ythpcjcdiaifoiaa.G.r_lLine_5 x2 x3 x4 x5, Go.Proofs.Ythpcjcdiaifoiaa.G.r_lLine_6 x2 x3 x4 x5, Go.Proofs.Ythpcjcdiaifoiaa.G.r_lLine_7 x2 x3 x4 x5] i (0 : Int)) (Go.Proofs.Ythpcjcdiaifoiaa.G.faA { n := n10, g := g10, h := h10, off := x6, burns := x7, left := x8, steps := x9 } x0 x1) (8 : Nat) (0 : Nat) (Go.Proofs.Ythpcjcdiaifoiaa.G.Mem.stM { n := n10, g := g10, h := h10, off := x6, burns := x7, left := x8, steps := x9 } (Go.Proofs.Ythpcjcdiaifoiaa.G.faA { n := n10, g := g10, h := h10, off := x6, burns := x7, left := x8, steps := x9 } x0 x1) (7 : Int) (0 : Int))).fst x0 (Go.Proofs.Ythpcjcdiaifoiaa.G.faA { n := n10, g := g10, h := h10, off := x6, burns := x7, left := x8, steps := x9 } x0 x1)) x0).burns)), (.i ((Go.Proofs.Ythpcjcdiaifoiaa.G.Mem.feM (Go.Proofs.Ythpcjcdiaifoiaa.G.Mem.flM (Go.Proofs.Ythpcjcdiaifoiaa.G.stL (fun (i : Nat) => List.getD [Go.Proofs.Ythpcjcdiaifoiaa.G.r_lLine_0 x2 x3 x4 x5, Go.Proofs.Ythpcjcdiaifoiaa.G.r_lLine_1 x2 x3 x4 x5, Go.Proofs.Ythpcjcdiaifoiaa.G.r_lLine_2 x2 x3 x4 x5, Go.Proofs.Ythpcjcdiaifoiaa.G.r_lLine_3 x2 x3 x4 x5, Go.Proofs.Ythpcjcdiaifoiaa.G.r_lLine_4 x2 x3 x4 x5, Go.Proofs.Ythpcjcdiaifoiaa.G.r_lLine_5 x2 x3 x4 x5, Go.Proofs.Ythpcjcdiaifoiaa.G.r_lLine_6 x2 x3 x4 x5, Go.Proofs.Ythpcjcdiaifoiaa.G.r_lLine_7 x2 x3 x4 x5] i (0 : Int)) (Go.Proofs.Ythpcjcdiaifoiaa.G.faA { n := n10, g := g10, h := h10, off := x6, burns := x7, left := x8, steps := x9 } x0 x1) (8 : Nat) (0 : Nat) (Go.Proofs.Ythpcjcdiaifoiaa.G.Mem.stM { n := n10, g := g10, h := h10, off := x6, burns := x7, left := x8, steps := x9 } (Go.Proofs.Ythpcjcdiaifoiaa.G.faA { n := n10, g := g10, h := h10, off := x6, burns := x7, left := x8, steps := x9 } x0 x1) (7 : Int) (0 : Int))).fst x0 (Go.Proofs.Ythpcjcdiaifoiaa.G.faA { n := n10, g := g10, h := h10, off := x6, burns := x7, left := x8, steps := x9 } x0 x1)) x0).left)), (.i ((Go.Proofs.Ythpcjcdiaifoiaa.G.Mem.feM (Go.Proofs.Ythpcjcdiaifoiaa.G.Mem.flM (Go.Proofs.Ythpcjcdiaifoiaa.G.stL (fun (i : Nat) => List.getD [Go.Proofs.Ythpcjcdiaifoiaa.G.r_lLine_0 x2 x3 x4 x5, Go.Proofs.Ythpcjcdiaifoiaa.G.r_lLine_1 x2 x3 x4 x5, Go.Proofs.Ythpcjcdiaifoiaa.G.r_lLine_2 x2 x3 x4 x5, Go.Proofs.Ythpcjcdiaifoiaa.G.r_lLine_3 x2 x3 x4 x5, Go.Proofs.Ythpcjcdiaifoiaa.G.r_lLine_4 x2 x3 x4 x5, Go.Proofs.Ythpcjcdiaifoiaa.G.r_lLine_5 x2 x3 x4 x5, Go.Proofs.Ythpcjcdiaifoiaa.G.r_lLine_6 x2 x3 x4 x5, Go.Proofs.Ythpcjcdiaifoiaa.G.r_lLine_7 x2 x3 x4 x5] i (0 : Int)) (Go.Proofs.Ythpcjcdiaifoiaa.G.faA { n := n10, g := g10, h := h10, off := x6, burns := x7, left := x8, steps := x9 } x0 x1) (8 : Nat) (0 : Nat) (Go.Proofs.Ythpcjcdiaifoiaa.G.Mem.stM { n := n10, g := g10, h := h10, off := x6, burns := x7, left := x8, steps := x9 } (Go.Proofs.Ythpcjcdiaifoiaa.G.faA { n := n10, g := g10, h := h10, off := x6, burns := x7, left := x8, steps := x9 } x0 x1) (7 : Int) (0 : Int))).fst x0 (Go.Proofs.Ythpcjcdiaifoiaa.G.faA { n := n10, g := g10, h := h10, off := x6, burns := x7, left := x8, steps := x9 } x0 x1)) x0).steps)), (.q ((Go.Proofs.Ythpcjcdiaifoiaa.G.Mem.feM (Go.Proofs.Ythpcjcdiaifoiaa.G.Mem.flM (Go.Proofs.Ythpcjcdiaifoiaa.G.stL (fun (i : Nat) => List.getD [Go.Proofs.Ythpcjcdiaifoiaa.G.r_lLine_0 x2 x3 x4 x5, Go.Proofs.Ythpcjcdiaifoiaa.G.r_lLine_1 x2 x3 x4 x5, Go.Proofs.Ythpcjcdiaifoiaa.G.r_lLine_2 x2 x3 x4 x5, Go.Proofs.Ythpcjcdiaifoiaa.G.r_lLine_3 x2 x3 x4 x5, Go.Proofs.Ythpcjcdiaifoiaa.G.r_lLine_4 x2 x3 x4 x5, Go.Proofs.Ythpcjcdiaifoiaa.G.r_lLine_5 x2 x3 x4 x5, Go.Proofs.Ythpcjcdiaifoiaa.G.r_lLine_6 x2 x3 x4 x5, Go.Proofs.Ythpcjcdiaifoiaa.G.r_lLine_7 x2 x3 x4 x5] i (0 : Int)) (Go.Proofs.Ythpcjcdiaifoiaa.G.faA { n := n10, g := g10, h := h10, off := x6, burns := x7, left := x8, steps := x9 } x0 x1) (8 : Nat) (0 : Nat) (Go.Proofs.Ythpcjcdiaifoiaa.G.Mem.stM { n := n10, g := g10, h := h10, off := x6, burns := x7, left := x8, steps := x9 } (Go.Proofs.Ythpcjcdiaifoiaa.G.faA { n := n10, g := g10, h := h10, off := x6, burns := x7, left := x8, steps := x9 } x0 x1) (7 : Int) (0 : Int))).fst x0 (Go.Proofs.Ythpcjcdiaifoiaa.G.faA { n := n10, g := g10, h := h10, off := x6, burns := x7, left := x8, steps := x9 } x0 x1)) x0).n) ((Go.Proofs.Ythpcjcdiaifoiaa.G.Mem.feM (Go.Proofs.Ythpcjcdiaifoiaa.G.Mem.flM (Go.Proofs.Ythpcjcdiaifoiaa.G.stL (fun (i : Nat) => List.getD [Go.Proofs.Ythpcjcdiaifoiaa.G.r_lLine_0 x2 x3 x4 x5, Go.Proofs.Ythpcjcdiaifoiaa.G.r_lLine_1 x2 x3 x4 x5, Go.Proofs.Ythpcjcdiaifoiaa.G.r_lLine_2 x2 x3 x4 x5, Go.Proofs.Ythpcjcdiaifoiaa.G.r_lLine_3 x2 x3 x4 x5, Go.Proofs.Ythpcjcdiaifoiaa.G.r_lLine_4 x2 x3 x4 x5, Go.Proofs.Ythpcjcdiaifoiaa.G.r_lLine_5 x2 x3 x4 x5, Go.Proofs.Ythpcjcdiaifoiaa.G.r_lLine_6 x2 x3 x4 x5, Go.Proofs.Ythpcjcdiaifoiaa.G.r_lLine_7 x2 x3 x4 x5] i (0 : Int)) (Go.Proofs.Ythpcjcdiaifoiaa.G.faA { n := n10, g := g10, h := h10, off := x6, burns := x7, left := x8, steps := x9 } x0 x1) (8 : Nat) (0 : Nat) (Go.Proofs.Ythpcjcdiaifoiaa.G.Mem.stM { n := n10, g := g10, h := h10, off := x6, burns := x7, left := x8, steps := x9 } (Go.Proofs.Ythpcjcdiaifoiaa.G.faA { n := n10, g := g10, h := h10, off := x6, burns := x7, left := x8, steps := x9 } x0 x1) (7 : Int) (0 : Int))).fst x0 (Go.Proofs.Ythpcjcdiaifoiaa.G.faA { n := n10, g := g10, h := h10, off := x6, burns := x7, left := x8, steps := x9 } x0 x1)) x0).g) ((16 : Nat)) ((2 : Nat)) ((Go.Proofs.Ythpcjcdiaifoiaa.G.Mem.feM (Go.Proofs.Ythpcjcdiaifoiaa.G.Mem.flM (Go.Proofs.Ythpcjcdiaifoiaa.G.stL (fun (i : Nat) => List.getD [Go.Proofs.Ythpcjcdiaifoiaa.G.r_lLine_0 x2 x3 x4 x5, Go.Proofs.Ythpcjcdiaifoiaa.G.r_lLine_1 x2 x3 x4 x5, Go.Proofs.Ythpcjcdiaifoiaa.G.r_lLine_2 x2 x3 x4 x5, Go.Proofs.Ythpcjcdiaifoiaa.G.r_lLine_3 x2 x3 x4 x5, Go.Proofs.Ythpcjcdiaifoiaa.G.r_lLine_4 x2 x3 x4 x5, Go.Proofs.Ythpcjcdiaifoiaa.G.r_lLine_5 x2 x3 x4 x5, Go.Proofs.Ythpcjcdiaifoiaa.G.r_lLine_6 x2 x3 x4 x5, Go.Proofs.Ythpcjcdiaifoiaa.G.r_lLine_7 x2 x3 x4 x5] i (0 : Int)) (Go.Proofs.Ythpcjcdiaifoiaa.G.faA { n := n10, g := g10, h := h10, off := x6, burns := x7, left := x8, steps := x9 } x0 x1) (8 : Nat) (0 : Nat) (Go.Proofs.Ythpcjcdiaifoiaa.G.Mem.stM { n := n10, g := g10, h := h10, off := x6, burns := x7, left := x8, steps := x9 } (Go.Proofs.Ythpcjcdiaifoiaa.G.faA { n := n10, g := g10, h := h10, off := x6, burns := x7, left := x8, steps := x9 } x0 x1) (7 : Int) (0 : Int))).fst x0 (Go.Proofs.Ythpcjcdiaifoiaa.G.faA { n := n10, g := g10, h := h10, off := x6, burns := x7, left := x8, steps := x9 } x0 x1)) x0).h))])
 (.no)))
 (.no)))
 (.no)))
 (.no)))
 (.no))
noncomputable def y_rappend : Nat → Option Nat := (syOf3 [25, 33, 39, 60] [] [])
noncomputable def TL_rappend (l : List At) : Tr (List At) := T_rappend (aI l 0) (aI l 1) (aI l 2) (aI l 3) (aI l 4) (aI l 5) (aB l 6) (aB l 7) (aI l 8) (aI l 9) (aRn l 10) (aRg l 10) (aMh l 10 16 2)
theorem e_rappend (l : List At) : (call Try.prog Γ_R4 y_rappend Lp_rappend_11 100 Try.f18 (mkV ish_rappend l) (mkH ish_rappend l)).bind (leafO 3 osh_rappend) = TL_rappend l := by kernel_rfl
noncomputable def F_rappend : List At → Tr (List At) := TL_rappend
theorem s_rappend : SpecF Try.prog 18 (.eff (locF ish_rappend osh_rappend F_rappend)) :=
  spec_loc (sy := y_rappend) (fuel := 100) (Lp := Lp_rappend_11) o_R4 mixed ⟨Try.func18, by kernel_rfl, by kernel_rfl⟩ ish_rappend osh_rappend lk_rappend_11 (hT_ways e_rappend)
noncomputable def Γ_rappend : Specs := upd Γ_R4 18 (.eff (locF ish_rappend osh_rappend F_rappend))
theorem o_rappend : SpecOK Try.prog Γ_rappend := SpecOK.upd o_R4 s_rappend

end Go.Proofs.Ythpcjcdiaifoiaa.G
end

/-
  A line's write: its last word's nought, its words, a flush, a fence; in plain words. (Behind the loop's text stL.)
-/
section
namespace Go.Proofs.Ythpcjcdiaifoiaa.G
open Go Go.AM Go.Proofs

/-- What a write makes of the memory, and the code: 'w' are the line's words. -/
noncomputable def wrM (w : Nat → Int) (m : Mem) (core slot : Int) : Mem × Int :=
  if m.stC slot 7 ≠ 0 then (m.stM slot 7 0, m.stC slot 7) else
  if (stL w slot 8 0 (m.stM slot 7 0)).2 ≠ 0 then stL w slot 8 0 (m.stM slot 7 0) else
  if (stL w slot 8 0 (m.stM slot 7 0)).1.stC slot core ≠ 0 then ((stL w slot 8 0 (m.stM slot 7 0)).1.flM core slot, (stL w slot 8 0 (m.stM slot 7 0)).1.stC slot core) else
  (((stL w slot 8 0 (m.stM slot 7 0)).1.flM core slot).feM core, ((stL w slot 8 0 (m.stM slot 7 0)).1.flM core slot).feC core)

theorem stL_ok {w : Nat → Int} {s : Int} : ∀ (k i : Nat) (M : Mem) (K : Int), M.Ok K → K + k ≤ 900000 → (stL w s k i M).1.Ok (K + k)
  | 0, _, _, _, h, _ => h.mono (by omega)
  | k + 1, i, M, K, h, hK => by
    rw [stL]
    have h1 := stM_ok (i := s) (w := (i : Int)) (v := w i) h (by omega)
    split
    · exact (stL_ok k (i + 1) _ (K + 1) h1 (by omega)).mono (by omega)
    · exact h1.mono (by omega)

theorem wrM_ok {w : Nat → Int} {m : Mem} {c s K : Int} (h : m.Ok K) (hK : K + 11 ≤ 900000) : (wrM w m c s).1.Ok (K + 11) := by
  have ok1 := stM_ok (i := s) (w := 7) (v := 0) h (by omega)
  have ok2 := stL_ok (w := w) (s := s) 8 0 _ _ ok1 (by omega)
  unfold wrM
  split
  · exact ok1.mono (by omega)
  · split
    · exact ok2.mono (by omega)
    · split
      · exact (flM_ok ok2).mono (by omega)
      · exact (feM_ok (flM_ok ok2)).mono (by omega)
end Go.Proofs.Ythpcjcdiaifoiaa.G
end

/-
  Append, in plain words.
-/
section
namespace Go.Proofs.Ythpcjcdiaifoiaa.G
open Go Go.AM Go.Proofs

noncomputable def llW (x2 x3 x4 x5 : Int) : Nat → Int := fun i => [r_lLine_0 x2 x3 x4 x5, r_lLine_1 x2 x3 x4 x5, r_lLine_2 x2 x3 x4 x5, r_lLine_3 x2 x3 x4 x5, r_lLine_4 x2 x3 x4 x5, r_lLine_5 x2 x3 x4 x5, r_lLine_6 x2 x3 x4 x5, r_lLine_7 x2 x3 x4 x5].getD i 0

noncomputable def rapA (w : Nat → Int) (lc : Int) (m : Mem) (core seq : Int) : Mem × Int := bif faC m core seq != 0 then (m, faC m core seq) else bif lc != 0 then (m, lc) else wrM w m core (faA m core seq)

theorem t_rappend (x0 x1 x2 x3 x4 x5 : Int) (m : Mem) (hm : m.Ok 880000) :
    (T_rappend x0 x1 x2 x3 x4 x5 m.off m.burns m.left m.steps m.n m.g m.h).sat fun r => AtsEq r (.i (rapA (llW x2 x3 x4 x5) (r_lLine_8 x2 x3 x4 x5) m x0 x1).2 :: (rapA (llW x2 x3 x4 x5) (r_lLine_8 x2 x3 x4 x5) m x0 x1).1.ats) := by
  unfold T_rappend rapA
  refine brC (fun h0 => Tr.sat_ok.2 ?_) (fun h0 => brT (lsk _ _ _ _) (brC (fun h1 => Tr.sat_ok.2 ?_) (fun h1 => ?_)))
  · have h0' : (faC m x0 x1 != 0) = true := h0
    rw [h0']; exact AtsEq.refl _
  · have h0' : (faC m x0 x1 != 0) = false := h0
    rw [h0', h1]; exact AtsEq.refl _
  · have h0' : (faC m x0 x1 != 0) = false := h0
    rw [h0', h1]
    show (Tr.br 0 _ _ _).sat fun r => AtsEq r (.i (wrM (llW x2 x3 x4 x5) m x0 (faA m x0 x1)).2 :: (wrM (llW x2 x3 x4 x5) m x0 (faA m x0 x1)).1.ats)
    have ok1 := stM_ok (i := faA m x0 x1) (w := 7) (v := 0) hm (by decide)
    have ok2 := stL_ok (w := llW x2 x3 x4 x5) (s := faA m x0 x1) 8 0 _ _ ok1 (by decide)
    have ok3 := flM_ok (c := x0) (i := faA m x0 x1) ok2
    unfold wrM
    refine brT (pdec_yes (hm.mono (by decide))) (brNE (fun h1 => Tr.sat_ok.2 ?_) (fun h1 => brT (pdec_yes ⟨Int.le_refl _, by decide, ok1.mono (by decide)⟩) (brC (fun h2 => Tr.sat_ok.2 ?_) (fun h2 => brT ?_ (brC (fun h3 => Tr.sat_ok.2 ?_) (fun h3 => brT ?_ (Tr.sat_ok.2 ?_)))))))
    · rw [if_pos h1]; exact AtsEq.refl _
    · have h2' : (stL (llW x2 x3 x4 x5) (faA m x0 x1) 8 0 (m.stM (faA m x0 x1) 7 0)).2 ≠ 0 := by
        have e : ((stL (llW x2 x3 x4 x5) (faA m x0 x1) 8 0 (m.stM (faA m x0 x1) 7 0)).2 != 0) = true := h2
        simpa using e
      rw [if_neg (fun hh => hh h1), if_pos h2']
      exact AtsEq.refl _
    · exact pdec_yes (ok2.mono (by decide))
    · have h2' : ¬ (stL (llW x2 x3 x4 x5) (faA m x0 x1) 8 0 (m.stM (faA m x0 x1) 7 0)).2 ≠ 0 := by
        have e : ((stL (llW x2 x3 x4 x5) (faA m x0 x1) 8 0 (m.stM (faA m x0 x1) 7 0)).2 != 0) = false := h2
        simpa using e
      have h3' : (stL (llW x2 x3 x4 x5) (faA m x0 x1) 8 0 (m.stM (faA m x0 x1) 7 0)).1.stC (faA m x0 x1) x0 ≠ 0 := by
        have e : ((stL (llW x2 x3 x4 x5) (faA m x0 x1) 8 0 (m.stM (faA m x0 x1) 7 0)).1.stC (faA m x0 x1) x0 != 0) = true := h3
        simpa using e
      rw [if_neg (fun hh => hh h1), if_neg h2', if_pos h3']
      exact AtsEq.refl _
    · exact pdec_yes (ok3.mono (by decide))
    · have h2' : ¬ (stL (llW x2 x3 x4 x5) (faA m x0 x1) 8 0 (m.stM (faA m x0 x1) 7 0)).2 ≠ 0 := by
        have e : ((stL (llW x2 x3 x4 x5) (faA m x0 x1) 8 0 (m.stM (faA m x0 x1) 7 0)).2 != 0) = false := h2
        simpa using e
      have h3' : ¬ (stL (llW x2 x3 x4 x5) (faA m x0 x1) 8 0 (m.stM (faA m x0 x1) 7 0)).1.stC (faA m x0 x1) x0 ≠ 0 := by
        have e : ((stL (llW x2 x3 x4 x5) (faA m x0 x1) 8 0 (m.stM (faA m x0 x1) 7 0)).1.stC (faA m x0 x1) x0 != 0) = false := h3
        simpa using e
      rw [if_neg (fun hh => hh h1), if_neg h2', if_neg h3']
      exact AtsEq.refl _

noncomputable def F2_rappend (l : List At) : Tr (List At) := .br 0 (pdec (Mem.Ok 880000 (mm l 6)))
  (.ok (.i (rapA (llW (aI l 2) (aI l 3) (aI l 4) (aI l 5)) (r_lLine_8 (aI l 2) (aI l 3) (aI l 4) (aI l 5)) (mm l 6) (aI l 0) (aI l 1)).2 :: (rapA (llW (aI l 2) (aI l 3) (aI l 4) (aI l 5)) (r_lLine_8 (aI l 2) (aI l 3) (aI l 4) (aI l 5)) (mm l 6) (aI l 0) (aI l 1)).1.ats)) .no
theorem s2_rappend : SpecF Try.prog 18 (.eff (locF ish_rappend osh_rappend F2_rappend)) :=
  spec_loc (sy := y_rappend) (fuel := 100) (Lp := Lp_rappend_11) o_R4 mixed ⟨Try.func18, by kernel_rfl, by kernel_rfl⟩ ish_rappend osh_rappend lk_rappend_11 (hT_of e_rappend fun l r h => by
    obtain ⟨h1, h⟩ := guard_val h
    have := val_ok h
    subst this
    exact t_rappend (aI l 0) (aI l 1) (aI l 2) (aI l 3) (aI l 4) (aI l 5) (mm l 6) (of_pdec h1))
noncomputable def Γ_R6 : Specs := upd Γ_rappend 18 (.eff (locF ish_rappend osh_rappend F2_rappend))
theorem o_R6 : SpecOK Try.prog Γ_R6 := SpecOK.upd o_rappend s2_rappend
end Go.Proofs.Ythpcjcdiaifoiaa.G
end

/-
  What functions of the seat compute, printed by a program from the explorer.
-/
section
namespace Go.Proofs.Ythpcjcdiaifoiaa.G
open Go Go.AM Go.Proofs
/-! ### the loop at 4 of ins -/

noncomputable def lsh_ins_4 : FSh := ⟨[.v false [.sw 0 4], .v false [.k (.n .i64)], .v false [.k (.n .i64)], .v false [.fn 44 []], .any, .any, .any, .any, .v false [.k (.n .i64)], .v false [.k (.n .i64)], .any, .any, .any, .any, .any, .any, .any, .any, .any, .any, .any, .any, .any, .any, .any, .any, .any, .any, .any, .any, .any, .any, .any, .any, .any, .any, .any, .any, .any, .any, .any, .any, .any, .any, .any, .any, .any, .any, .any, .any, .any, .any, .any], [.rows [.n .i64, .n .i64, .n .i64, .n .u64] true]⟩
noncomputable def xsh_ins_4_0 : FSh := ⟨[.v false [.sw 0 4], .v false [.k (.n .i64)], .v false [.k (.n .i64)], .v false [.fn 44 []], .any, .any, .any, .any, .v false [.k (.n .i64)], .any, .any, .any, .any, .any, .any, .any, .any, .any, .any, .any, .any, .any, .any, .any, .any, .any, .any, .any, .any, .any, .any, .any, .any, .any, .any, .any, .any, .any, .any, .any, .any, .any, .any, .any, .any, .any, .any, .any, .any, .any, .any, .any, .any], [.rows [.n .i64, .n .i64, .n .i64, .n .u64] true]⟩
noncomputable def xs_ins_4 : Exs := fun e => match e with
  | .normal => some lsh_ins_4
  | .exit n => (match Nat.beq n 2 with | true => some xsh_ins_4_0 | false => none)
  | .ret => none
noncomputable def ins_4_c4 (x3 : Int) (g4 : Nat → Nat → Int) : Bool := Decidable.decide (Go.Proofs.Ythpcjcdiaifoiaa.G.r_cmpI_0 (g4 (Int.toNat x3) (0 : Nat)) (g4 (Int.toNat (Go.IntKind.wrap Go.IntKind.i64 (x3 - (1 : Int)))) (0 : Nat)) < (0 : Int))
noncomputable def B_ins_4 (x0 : Int) (x1 : Int) (x2 : Int) (x3 : Int) (n4 : Nat) (g4 : Nat → Nat → Int) : Tr (Ex × List At) :=
 .br 21 (Decidable.decide (x3 > x0))
 (.br 25 (Go.AM.within x3 n4)
 (.br 30 (Go.AM.within (Go.IntKind.wrap Go.IntKind.i64 (x3 - (1 : Int))) n4)
 (.br 34 ((ins_4_c4 x3 g4))
 (.br 45 (Go.AM.within (Go.IntKind.wrap Go.IntKind.i64 (x3 - (1 : Int))) n4)
 (.br 49 (Go.AM.within x3 n4)
 (.br 51 (Go.AM.within x3 n4)
 (.br 52 (Go.AM.within (Go.IntKind.wrap Go.IntKind.i64 (x3 - (1 : Int))) n4)
 (.ok (.normal, [(.i (x0)), (.i (x1)), (.i (x2)), (.i (Go.IntKind.wrap Go.IntKind.i64 (x3 - (1 : Int)))), (.r (n4) (Go.AM.updG (Go.AM.updG (Go.AM.updG (Go.AM.updG (Go.AM.updG (Go.AM.updG (Go.AM.updG (Go.AM.updG g4 (Int.toNat x3) (0 : Nat) (g4 (Int.toNat (Go.IntKind.wrap Go.IntKind.i64 (x3 - (1 : Int)))) (0 : Nat))) (Int.toNat x3) (1 : Nat) (g4 (Int.toNat (Go.IntKind.wrap Go.IntKind.i64 (x3 - (1 : Int)))) (1 : Nat))) (Int.toNat x3) (2 : Nat) (g4 (Int.toNat (Go.IntKind.wrap Go.IntKind.i64 (x3 - (1 : Int)))) (2 : Nat))) (Int.toNat x3) (3 : Nat) (g4 (Int.toNat (Go.IntKind.wrap Go.IntKind.i64 (x3 - (1 : Int)))) (3 : Nat))) (Int.toNat (Go.IntKind.wrap Go.IntKind.i64 (x3 - (1 : Int)))) (0 : Nat) (g4 (Int.toNat x3) (0 : Nat))) (Int.toNat (Go.IntKind.wrap Go.IntKind.i64 (x3 - (1 : Int)))) (1 : Nat) (g4 (Int.toNat x3) (1 : Nat))) (Int.toNat (Go.IntKind.wrap Go.IntKind.i64 (x3 - (1 : Int)))) (2 : Nat) (g4 (Int.toNat x3) (2 : Nat))) (Int.toNat (Go.IntKind.wrap Go.IntKind.i64 (x3 - (1 : Int)))) (3 : Nat) (g4 (Int.toNat x3) (3 : Nat))))]))
 (.no))
 (.no))
 (.no))
 (.no))
 (.ok (.exit 2, [(.i (x0)), (.i (x1)), (.i (x2)), (.r (n4) (g4))])))
 (.no))
 (.no))
 (.ok (.exit 2, [(.i (x0)), (.i (x1)), (.i (x2)), (.r (n4) (g4))]))
noncomputable def y_ins_4 : Nat → Option Nat := (syOf3 [21, 25, 30, 34, 45, 49, 51, 52] [] [])
noncomputable def BL_ins_4 (l : List At) : Tr (Ex × List At) := B_ins_4 (aI l 0) (aI l 1) (aI l 2) (aI l 3) (aRn l 4) (aRg l 4)
theorem eB_ins_4 (l : List At) : (exec Try.prog Γ_R6 y_ins_4 noLoops 100 (loopAt Try.f69 4) ⟨mkV lsh_ins_4 l, mkH lsh_ins_4 l⟩).bind (leafL 1 xs_ins_4) = BL_ins_4 l := by kernel_rfl
/- by hand: O_ins_4 (x0 : Int) (x1 : Int) (x2 : Int) (x3 : Int) (n4 : Nat) (g4 : Nat → Nat → Int) : Tr (Ex × List At); OL_ins_4 (l) := O_ins_4 (aI l 0) (aI l 1) (aI l 2) (aI l 3) (aRn l 4) (aRg l 4); μ_ins_4 : List At → Nat; rd_ins_4 : ∀ l r, (OL_ins_4 l).val = some r → RoundA BL_ins_4 OL_ins_4 μ_ins_4 l r -/

end Go.Proofs.Ythpcjcdiaifoiaa.G
end

/-
  The loops of the insertion sort.
-/
section
namespace Go.Proofs.Ythpcjcdiaifoiaa.G
open Go Go.AM Go.Proofs

/-- The rows 'k' and 'k + 1' change places. -/
def swp (g : Nat → Nat → Int) (k : Nat) : Nat → Nat → Int := fun i c => if c < 4 then (if i = k then g (k + 1) c else if i = k + 1 then g k c else g i c) else g i c
theorem swp_upd (g : Nat → Nat → Int) (k : Nat) : updG (updG (updG (updG (updG (updG (updG (updG g (k + 1) 0 (g k 0)) (k + 1) 1 (g k 1)) (k + 1) 2 (g k 2)) (k + 1) 3 (g k 3)) k 0 (g (k + 1) 0)) k 1 (g (k + 1) 1)) k 2 (g (k + 1) 2)) k 3 (g (k + 1) 3) = swp g k := by
  funext i c
  unfold updG swp
  match c with
  | 0 | 1 | 2 | 3 =>
    simp only [if_true]
    by_cases h1 : i = k
    · subst h1; simp
    · by_cases h2 : i = k + 1
      · subst h2; simp
      · simp [h1, h2]
  | n + 4 => rw [if_neg (by omega), if_neg (by omega), if_neg (by omega), if_neg (by omega), if_neg (by omega), if_neg (by omega), if_neg (by omega), if_neg (by omega), if_neg (show ¬ n + 4 < 4 by omega)]

/-- The row 'a + d' sinks. -/
def snk (a : Nat) : Nat → (Nat → Nat → Int) → (Nat → Nat → Int)
  | 0, g => g
  | d + 1, g => bif decide (g (a + d + 1) 0 < g (a + d) 0) then snk a d (swp g (a + d)) else g
/-- 'm' rows from the one at 'a + d' on sink. -/
def insG (a : Nat) : Nat → Nat → (Nat → Nat → Int) → (Nat → Nat → Int)
  | 0, _, g => g
  | m + 1, d, g => insG a m (d + 1) (snk a d g)

theorem cmp_lt (x y : Int) : decide (r_cmpI_0 x y < 0) = decide (x < y) := by
  unfold r_cmpI_0 r_isNaN_0
  by_cases h1 : x < y
  · simp [h1]
  · by_cases h2 : x > y
    · simp [h1, h2]
    · simp [h1, h2]

noncomputable def O_ins_4 (x0 x1 x2 x3 : Int) (n4 : Nat) (g4 : Nat → Nat → Int) : Tr (Ex × List At) :=
  .br 0 (pdec (0 ≤ x0 ∧ x0 ≤ x3 ∧ x3 < n4 ∧ n4 ≤ 1000000)) (.ok (.exit 2, [.i x0, .i x1, .i x2, .r n4 (snk x0.toNat (x3 - x0).toNat g4)])) .no
noncomputable def OL_ins_4 (l : List At) : Tr (Ex × List At) := O_ins_4 (aI l 0) (aI l 1) (aI l 2) (aI l 3) (aRn l 4) (aRg l 4)
def μ_ins_4 (l : List At) : Nat := (aI l 3 - aI l 0).toNat

theorem rd_ins_4 : ∀ l r, (OL_ins_4 l).val = some r → RoundS BL_ins_4 OL_ins_4 μ_ins_4 l r := by
  intro l r hh
  unfold OL_ins_4 at hh
  obtain ⟨hc, h⟩ := guard_val hh
  clear hh
  obtain ⟨c0, c1, c2, c3⟩ := of_pdec hc
  unfold RoundS BL_ins_4 B_ins_4
  generalize hx0 : aI l 0 = x0 at *
  generalize hx3 : aI l 3 = x3 at *
  generalize hn : aRn l 4 = n at *
  generalize hg : aRg l 4 = g at *
  have hw : IntKind.i64.wrap (x3 - 1) = x3 - 1 := wrap_i64 (by omega) (by omega)
  rw [hw]
  refine brD (fun h1 => ?_) (fun h1 => ?_)
  · obtain ⟨k, hk⟩ : ∃ k : Nat, x3 = (k : Int) + 1 := ⟨(x3 - 1).toNat, by omega⟩
    have e3 : x3.toNat = k + 1 := by omega
    have e2 : (x3 - 1).toNat = k := by omega
    obtain ⟨a, rfl⟩ := Int.eq_ofNat_of_zero_le c0
    have e1 : (x3 - (a : Int)).toNat = (x3 - 1 - (a : Int)).toNat + 1 := by omega
    have e4 : a + (x3 - 1 - (a : Int)).toNat = k := by omega
    have hμ : (x3 - 1 - (a : Int)).toNat < μ_ins_4 l := by unfold μ_ins_4; rw [hx0, hx3]; omega
    have hq : 0 ≤ (a : Int) ∧ (a : Int) ≤ x3 - 1 ∧ x3 - 1 < n ∧ n ≤ 1000000 := ⟨by omega, by omega, by omega, c3⟩
    rw [e1, snk, Int.toNat_natCast, e4] at h
    have hcc : ins_4_c4 x3 g = decide (g (k + 1) 0 < g k 0) := by
      unfold ins_4_c4
      rw [hw, e3, e2]
      exact cmp_lt _ _
    have yes : ∀ {t e : Tr (Ex × List At)} {Q : Ex × List At → Prop} {i : Nat}, t.sat Q → (Tr.br i (within x3 n) t e).sat Q := fun ht => brT (by simp [within]; omega) ht
    have yes' : ∀ {t e : Tr (Ex × List At)} {Q : Ex × List At → Prop} {i : Nat}, t.sat Q → (Tr.br i (within (x3 - 1) n) t e).sat Q := fun ht => brT (by simp [within]; omega) ht
    refine yes (yes' (brC (fun h2 => yes' (yes (yes (yes' ?_)))) (fun h2 => ?_)))
    · rw [hcc] at h2
      rw [h2, cond_true] at h
      rw [e3, e2, swp_upd]
      have h' : (Tr.ok (Ex.exit 2, [At.i (a : Int), At.i (aI l 1), At.i (aI l 2), At.r n (snk (a : Int).toNat (x3 - 1 - (a : Int)).toNat (swp g k))])).val = some r := h
      exact on_ _ r (AtsEq.refl _) hμ ((br_t (g := 0) (pdec_yes hq)).trans h') rfl (AtsEq.refl _)
    · rw [hcc] at h2
      rw [h2, cond_false] at h
      have hv := val_ok h
      subst hv
      exact out_ (by simp) rfl (AtsEq.refl _)
  · have e : (x3 - x0).toNat = 0 := by omega
    rw [e, snk] at h
    have hv := val_ok h
    subst hv
    exact out_ (by simp) rfl (AtsEq.refl _)
end Go.Proofs.Ythpcjcdiaifoiaa.G
end

/-
  What functions of the seat compute, printed by a program from the explorer.
-/
section
namespace Go.Proofs.Ythpcjcdiaifoiaa.G
open Go Go.AM Go.Proofs
theorem f_ins_4 : LoopF Try.prog 1 (loopAt Try.f69 4) (loopFn 1 lsh_ins_4 xs_ins_4 OL_ins_4) :=
  loop_sat (sy := y_ins_4) (fuel := 100) (Lp := noLoops) o_R6 mixed (loopsOK_at (noLoops_ok _) 4) rfl eB_ins_4 rd_ins_4
noncomputable def Lp_ins_4 : Loops := Loops.set noLoops 4 (loopFn 1 lsh_ins_4 xs_ins_4 OL_ins_4)
theorem lk_ins_4 : LoopsFn Try.prog 1 Lp_ins_4 Try.f69 := loopsFn_set (noLoops_ok _) (by kernel_rfl) f_ins_4

/-! ### the loop at 1 of ins -/

noncomputable def lsh_ins_1 : FSh := ⟨[.v false [.sw 0 4], .v false [.k (.n .i64)], .v false [.k (.n .i64)], .v false [.fn 44 []], .any, .any, .any, .any, .v false [.k (.n .i64)], .any, .any, .any, .any, .any, .any, .any, .any, .any, .any, .any, .any, .any, .any, .any, .any, .any, .any, .any, .any, .any, .any, .any, .any, .any, .any, .any, .any, .any, .any, .any, .any, .any, .any, .any, .any, .any, .any, .any, .any, .any, .any, .any, .any], [.rows [.n .i64, .n .i64, .n .i64, .n .u64] true]⟩
noncomputable def xsh_ins_1_0 : FSh := ⟨[.any, .any, .any, .any, .any, .any, .any, .any, .any, .any, .any, .any, .any, .any, .any, .any, .any, .any, .any, .any, .any, .any, .any, .any, .any, .any, .any, .any, .any, .any, .any, .any, .any, .any, .any, .any, .any, .any, .any, .any, .any, .any, .any, .any, .any, .any, .any, .any, .any, .any, .any, .any, .any], [.rows [.n .i64, .n .i64, .n .i64, .n .u64] true]⟩
noncomputable def xs_ins_1 : Exs := fun e => match e with
  | .normal => some lsh_ins_1
  | .exit n => (match Nat.beq n 0 with | true => some xsh_ins_1_0 | false => none)
  | .ret => none
noncomputable def B_ins_1 (x0 : Int) (x1 : Int) (x2 : Int) (n3 : Nat) (g3 : Nat → Nat → Int) : Tr (Ex × List At) :=
 .br 14 (Decidable.decide (x2 < x1))
 (.br 0 (Go.Proofs.Ythpcjcdiaifoiaa.G.pdec ((0 : Int) ≤ x0 ∧ x0 ≤ x2 ∧ x2 < (↑n3 : Int) ∧ n3 ≤ (1000000 : Nat)))
 (.ok (.normal, [(.i (x0)), (.i (x1)), (.i (Go.IntKind.wrap Go.IntKind.i64 (x2 + (1 : Int)))), (.r (n3) (Go.Proofs.Ythpcjcdiaifoiaa.G.snk (Int.toNat x0) (Int.toNat (x2 - x0)) g3))]))
 (.no))
 (.ok (.exit 0, [(.r (n3) (g3))]))
noncomputable def y_ins_1 : Nat → Option Nat := (syOf3 [14] [] [])
noncomputable def BL_ins_1 (l : List At) : Tr (Ex × List At) := B_ins_1 (aI l 0) (aI l 1) (aI l 2) (aRn l 3) (aRg l 3)
theorem eB_ins_1 (l : List At) : (exec Try.prog Γ_R6 y_ins_1 Lp_ins_4 100 (loopAt Try.f69 1) ⟨mkV lsh_ins_1 l, mkH lsh_ins_1 l⟩).bind (leafL 1 xs_ins_1) = BL_ins_1 l := by kernel_rfl
/- by hand: O_ins_1 (x0 : Int) (x1 : Int) (x2 : Int) (n3 : Nat) (g3 : Nat → Nat → Int) : Tr (Ex × List At); OL_ins_1 (l) := O_ins_1 (aI l 0) (aI l 1) (aI l 2) (aRn l 3) (aRg l 3); μ_ins_1 : List At → Nat; rd_ins_1 : ∀ l r, (OL_ins_1 l).val = some r → RoundA BL_ins_1 OL_ins_1 μ_ins_1 l r -/

end Go.Proofs.Ythpcjcdiaifoiaa.G
end

/-
  The outer loop of the insertion sort.
-/
section
namespace Go.Proofs.Ythpcjcdiaifoiaa.G
open Go Go.AM Go.Proofs

noncomputable def O_ins_1 (x0 x1 x2 : Int) (n3 : Nat) (g3 : Nat → Nat → Int) : Tr (Ex × List At) :=
  .br 0 (pdec (0 ≤ x0 ∧ x0 + 1 ≤ x2 ∧ x1 ≤ n3 ∧ n3 ≤ 1000000)) (.ok (.exit 0, [.r n3 (insG x0.toNat (x1 - x2).toNat (x2 - x0).toNat g3)])) .no
noncomputable def OL_ins_1 (l : List At) : Tr (Ex × List At) := O_ins_1 (aI l 0) (aI l 1) (aI l 2) (aRn l 3) (aRg l 3)
def μ_ins_1 (l : List At) : Nat := (aI l 1 - aI l 2).toNat

theorem rd_ins_1 : ∀ l r, (OL_ins_1 l).val = some r → RoundS BL_ins_1 OL_ins_1 μ_ins_1 l r := by
  intro l r hh
  unfold OL_ins_1 at hh
  obtain ⟨hc, h⟩ := guard_val hh
  clear hh
  obtain ⟨c0, c1, c2, c3⟩ := of_pdec hc
  unfold RoundS BL_ins_1 B_ins_1
  generalize hx0 : aI l 0 = x0 at *
  generalize hx1 : aI l 1 = x1 at *
  generalize hx2 : aI l 2 = x2 at *
  generalize hn : aRn l 3 = n at *
  generalize hg : aRg l 3 = g at *
  refine brD (fun h1 => brT (pdec_yes ⟨c0, by omega, by omega, c3⟩) ?_) (fun h1 => ?_)
  · have hw : IntKind.i64.wrap (x2 + 1) = x2 + 1 := wrap_i64 (by omega) (by omega)
    have hμ : (x1 - (x2 + 1)).toNat < μ_ins_1 l := by unfold μ_ins_1; rw [hx1, hx2]; omega
    have hq : 0 ≤ x0 ∧ x0 + 1 ≤ x2 + 1 ∧ x1 ≤ n ∧ n ≤ 1000000 := ⟨c0, by omega, c2, c3⟩
    rw [hw]
    rw [show (x1 - x2).toNat = (x1 - (x2 + 1)).toNat + 1 by omega, insG, show (x2 - x0).toNat + 1 = (x2 + 1 - x0).toNat by omega] at h
    exact on_ _ r (AtsEq.refl _) hμ ((br_t (g := 0) (pdec_yes hq)).trans h) rfl (AtsEq.refl _)
  · rw [show (x1 - x2).toNat = 0 by omega, insG] at h
    have hv := val_ok h
    subst hv
    exact out_ (by simp) rfl (AtsEq.refl _)
end Go.Proofs.Ythpcjcdiaifoiaa.G
end

/-
  What functions of the seat compute, printed by a program from the explorer.
-/
section
namespace Go.Proofs.Ythpcjcdiaifoiaa.G
open Go Go.AM Go.Proofs
theorem f_ins_1 : LoopF Try.prog 1 (loopAt Try.f69 1) (loopFn 1 lsh_ins_1 xs_ins_1 OL_ins_1) :=
  loop_sat (sy := y_ins_1) (fuel := 100) (Lp := Lp_ins_4) o_R6 mixed (loopsOK_at lk_ins_4 1) rfl eB_ins_1 rd_ins_1
noncomputable def Lp_ins_1 : Loops := Loops.set Lp_ins_4 1 (loopFn 1 lsh_ins_1 xs_ins_1 OL_ins_1)
theorem lk_ins_1 : LoopsFn Try.prog 1 Lp_ins_1 Try.f69 := loopsFn_set lk_ins_4 (by kernel_rfl) f_ins_1

/-! ### ins -/

noncomputable def ish_ins : FSh := ⟨[.v false [.sw 0 4], .v false [.k (.n .i64)], .v false [.k (.n .i64)], .v false [.fn 44 []]], [.rows [.n .i64, .n .i64, .n .i64, .n .u64] true]⟩
noncomputable def osh_ins : FSh := ⟨[.tup []], [.rows [.n .i64, .n .i64, .n .i64, .n .u64] true]⟩
noncomputable def T_ins (x0 : Int) (x1 : Int) (n2 : Nat) (g2 : Nat → Nat → Int) : Tr (List At) :=
 .br 0 (Go.Proofs.Ythpcjcdiaifoiaa.G.pdec ((0 : Int) ≤ x0 ∧ x0 + (1 : Int) ≤ Go.IntKind.wrap Go.IntKind.i64 (x0 + (1 : Int)) ∧ x1 ≤ (↑n2 : Int) ∧ n2 ≤ (1000000 : Nat)))
 (.ok [(.r (n2) (Go.Proofs.Ythpcjcdiaifoiaa.G.insG (Int.toNat x0) (Int.toNat (x1 - Go.IntKind.wrap Go.IntKind.i64 (x0 + (1 : Int)))) (Int.toNat (Go.IntKind.wrap Go.IntKind.i64 (x0 + (1 : Int)) - x0)) g2))])
 (.no)
noncomputable def y_ins : Nat → Option Nat := (syOf3 [] [] [])
noncomputable def TL_ins (l : List At) : Tr (List At) := T_ins (aI l 0) (aI l 1) (aRn l 2) (aRg l 2)
theorem e_ins (l : List At) : (call Try.prog Γ_R6 y_ins Lp_ins_1 100 Try.f69 (mkV ish_ins l) (mkH ish_ins l)).bind (leafO 1 osh_ins) = TL_ins l := by kernel_rfl
noncomputable def F_ins : List At → Tr (List At) := TL_ins
theorem s_ins : SpecF Try.prog 69 (.eff (locF ish_ins osh_ins F_ins)) :=
  spec_loc (sy := y_ins) (fuel := 100) (Lp := Lp_ins_1) o_R6 mixed ⟨Try.func69, by kernel_rfl, by kernel_rfl⟩ ish_ins osh_ins lk_ins_1 (hT_ways e_ins)
noncomputable def Γ_ins : Specs := upd Γ_R6 69 (.eff (locF ish_ins osh_ins F_ins))
theorem o_ins : SpecOK Try.prog Γ_ins := SpecOK.upd o_R6 s_ins

end Go.Proofs.Ythpcjcdiaifoiaa.G
end

/-
  What functions of the seat compute, printed by a program from the explorer.
-/
section
namespace Go.Proofs.Ythpcjcdiaifoiaa.G
open Go Go.AM Go.Proofs
/-! ### the loop at 2 of stb -/

noncomputable def lsh_stb_2 : FSh := ⟨[.v false [.sw 0 4], .v false [.k (.n .i64)], .v false [.fn 44 []], .any, .any, .any, .v false [.k (.n .i64)], .v false [.k (.n .i64)], .v false [.k (.n .i64)], .any, .any, .any, .any, .any, .any, .any, .any, .any, .any, .any, .any, .any, .any, .any, .any, .any, .any, .any, .any, .any, .any, .any, .any, .any, .any, .any, .any, .any, .any, .any, .any, .any, .any, .any, .any, .any, .any, .any, .any, .any, .any, .any, .any, .any, .any, .any, .any, .any, .any, .any, .any, .any, .any], [.rows [.n .i64, .n .i64, .n .i64, .n .u64] true]⟩
noncomputable def xsh_stb_2_0 : FSh := ⟨[.v false [.sw 0 4], .v false [.k (.n .i64)], .v false [.fn 44 []], .any, .any, .any, .v false [.k (.n .i64)], .v false [.k (.n .i64)], .any, .any, .any, .any, .any, .any, .any, .any, .any, .any, .any, .any, .any, .any, .any, .any, .any, .any, .any, .any, .any, .any, .any, .any, .any, .any, .any, .any, .any, .any, .any, .any, .any, .any, .any, .any, .any, .any, .any, .any, .any, .any, .any, .any, .any, .any, .any, .any, .any, .any, .any, .any, .any, .any, .any], [.rows [.n .i64, .n .i64, .n .i64, .n .u64] true]⟩
noncomputable def xs_stb_2 : Exs := fun e => match e with
  | .normal => some lsh_stb_2
  | .exit n => (match Nat.beq n 0 with | true => some xsh_stb_2_0 | false => none)
  | .ret => none
noncomputable def B_stb_2 (x0 : Int) (x1 : Int) (x2 : Int) (x3 : Int) (n4 : Nat) (g4 : Nat → Nat → Int) : Tr (Ex × List At) :=
 .br 13 (Decidable.decide (x3 ≤ x0))
 (.br 0 (Go.Proofs.Ythpcjcdiaifoiaa.G.pdec ((0 : Int) ≤ x2 ∧ x2 + (1 : Int) ≤ Go.IntKind.wrap Go.IntKind.i64 (x2 + (1 : Int)) ∧ x3 ≤ (↑n4 : Int) ∧ n4 ≤ (1000000 : Nat)))
 (.ok (.normal, [(.i (x0)), (.i (x1)), (.i (x3)), (.i (Go.IntKind.wrap Go.IntKind.i64 (x3 + x1))), (.r (n4) (Go.Proofs.Ythpcjcdiaifoiaa.G.insG (Int.toNat x2) (Int.toNat (x3 - Go.IntKind.wrap Go.IntKind.i64 (x2 + (1 : Int)))) (Int.toNat (Go.IntKind.wrap Go.IntKind.i64 (x2 + (1 : Int)) - x2)) g4))]))
 (.no))
 (.ok (.exit 0, [(.i (x0)), (.i (x1)), (.i (x2)), (.r (n4) (g4))]))
noncomputable def y_stb_2 : Nat → Option Nat := (syOf3 [13] [] [])
noncomputable def BL_stb_2 (l : List At) : Tr (Ex × List At) := B_stb_2 (aI l 0) (aI l 1) (aI l 2) (aI l 3) (aRn l 4) (aRg l 4)
theorem eB_stb_2 (l : List At) : (exec Try.prog Γ_ins y_stb_2 noLoops 100 (loopAt Try.f63 2) ⟨mkV lsh_stb_2 l, mkH lsh_stb_2 l⟩).bind (leafL 1 xs_stb_2) = BL_stb_2 l := by kernel_rfl
/- by hand: O_stb_2 (x0 : Int) (x1 : Int) (x2 : Int) (x3 : Int) (n4 : Nat) (g4 : Nat → Nat → Int) : Tr (Ex × List At); OL_stb_2 (l) := O_stb_2 (aI l 0) (aI l 1) (aI l 2) (aI l 3) (aRn l 4) (aRg l 4); μ_stb_2 : List At → Nat; rd_stb_2 : ∀ l r, (OL_stb_2 l).val = some r → RoundA BL_stb_2 OL_stb_2 μ_stb_2 l r -/

end Go.Proofs.Ythpcjcdiaifoiaa.G
end

/-
  The blocks of the stable sort: where there is none but the last.
-/
section
namespace Go.Proofs.Ythpcjcdiaifoiaa.G
open Go Go.AM Go.Proofs

noncomputable def O_stb_2 (x0 x1 x2 x3 : Int) (n4 : Nat) (g4 : Nat → Nat → Int) : Tr (Ex × List At) :=
  .br 0 (pdec (x0 < x3)) (.ok (.exit 0, [.i x0, .i x1, .i x2, .r n4 g4])) .no
noncomputable def OL_stb_2 (l : List At) : Tr (Ex × List At) := O_stb_2 (aI l 0) (aI l 1) (aI l 2) (aI l 3) (aRn l 4) (aRg l 4)
def μ_stb_2 (_l : List At) : Nat := 0
theorem rd_stb_2 : ∀ l r, (OL_stb_2 l).val = some r → RoundS BL_stb_2 OL_stb_2 μ_stb_2 l r := by
  intro l r hh
  unfold OL_stb_2 at hh
  obtain ⟨hc, h⟩ := guard_val hh
  have c0 := of_pdec hc
  have hr := val_ok h
  subst hr
  unfold RoundS BL_stb_2 B_stb_2
  exact brD (fun h1 => by exfalso; omega) (fun _ => out_ (by simp) rfl (AtsEq.refl _))
end Go.Proofs.Ythpcjcdiaifoiaa.G
end

/-
  What functions of the seat compute, printed by a program from the explorer.
-/
section
namespace Go.Proofs.Ythpcjcdiaifoiaa.G
open Go Go.AM Go.Proofs
theorem f_stb_2 : LoopF Try.prog 1 (loopAt Try.f63 2) (loopFn 1 lsh_stb_2 xs_stb_2 OL_stb_2) :=
  loop_sat (sy := y_stb_2) (fuel := 100) (Lp := noLoops) o_ins mixed (loopsOK_at (noLoops_ok _) 2) rfl eB_stb_2 rd_stb_2
noncomputable def Lp_stb_2 : Loops := Loops.set noLoops 2 (loopFn 1 lsh_stb_2 xs_stb_2 OL_stb_2)
theorem lk_stb_2 : LoopsFn Try.prog 1 Lp_stb_2 Try.f63 := loopsFn_set (noLoops_ok _) (by kernel_rfl) f_stb_2

/-! ### the loop at 7 of stb -/

noncomputable def lsh_stb_7 : FSh := ⟨[.v false [.sw 0 4], .v false [.k (.n .i64)], .v false [.fn 44 []], .any, .any, .any, .v false [.k (.n .i64)], .any, .any, .any, .any, .any, .any, .any, .any, .any, .any, .any, .any, .any, .any, .any, .any, .any, .any, .any, .any, .any, .any, .any, .any, .any, .any, .any, .any, .any, .any, .any, .any, .any, .any, .any, .any, .any, .any, .any, .any, .any, .any, .any, .any, .any, .any, .any, .any, .any, .any, .any, .any, .any, .any, .any, .any], [.rows [.n .i64, .n .i64, .n .i64, .n .u64] true]⟩
noncomputable def xsh_stb_7_0 : FSh := ⟨[.any, .any, .any, .any, .any, .any, .any, .any, .any, .any, .any, .any, .any, .any, .any, .any, .any, .any, .any, .any, .any, .any, .any, .any, .any, .any, .any, .any, .any, .any, .any, .any, .any, .any, .any, .any, .any, .any, .any, .any, .any, .any, .any, .any, .any, .any, .any, .any, .any, .any, .any, .any, .any, .any, .any, .any, .any, .any, .any, .any, .any, .any, .any], [.rows [.n .i64, .n .i64, .n .i64, .n .u64] true]⟩
noncomputable def xs_stb_7 : Exs := fun e => match e with
  | .normal => some lsh_stb_7
  | .exit n => (match Nat.beq n 2 with | true => some xsh_stb_7_0 | false => none)
  | .ret => none
noncomputable def B_stb_7 (x0 : Int) (x1 : Int) (n2 : Nat) (g2 : Nat → Nat → Int) : Tr (Ex × List At) :=
 .br 30 (Decidable.decide (x1 < x0))
 (.br 35 (Decidable.decide (Go.IntKind.wrap Go.IntKind.i64 ((2 : Int) * x1) ≤ x0))
 (.no)
 (.br 54 (Decidable.decide (Go.IntKind.wrap Go.IntKind.i64 ((0 : Int) + x1) < x0))
 (.no)
 (.ok (.normal, [(.i (x0)), (.i (Go.IntKind.wrap Go.IntKind.i64 (x1 * (2 : Int)))), (.r (n2) (g2))]))))
 (.ok (.exit 2, [(.r (n2) (g2))]))
noncomputable def y_stb_7 : Nat → Option Nat := (syOf3 [30, 35, 54] [] [])
noncomputable def BL_stb_7 (l : List At) : Tr (Ex × List At) := B_stb_7 (aI l 0) (aI l 1) (aRn l 2) (aRg l 2)
theorem eB_stb_7 (l : List At) : (exec Try.prog Γ_ins y_stb_7 Lp_stb_2 100 (loopAt Try.f63 7) ⟨mkV lsh_stb_7 l, mkH lsh_stb_7 l⟩).bind (leafL 1 xs_stb_7) = BL_stb_7 l := by kernel_rfl
/- by hand: O_stb_7 (x0 : Int) (x1 : Int) (n2 : Nat) (g2 : Nat → Nat → Int) : Tr (Ex × List At); OL_stb_7 (l) := O_stb_7 (aI l 0) (aI l 1) (aRn l 2) (aRg l 2); μ_stb_7 : List At → Nat; rd_stb_7 : ∀ l r, (OL_stb_7 l).val = some r → RoundA BL_stb_7 OL_stb_7 μ_stb_7 l r -/

end Go.Proofs.Ythpcjcdiaifoiaa.G
end

/-
  The merges of the stable sort: where there are none.
-/
section
namespace Go.Proofs.Ythpcjcdiaifoiaa.G
open Go Go.AM Go.Proofs

noncomputable def O_stb_7 (x0 x1 : Int) (n2 : Nat) (g2 : Nat → Nat → Int) : Tr (Ex × List At) :=
  .br 0 (pdec (x0 ≤ x1)) (.ok (.exit 2, [.r n2 g2])) .no
noncomputable def OL_stb_7 (l : List At) : Tr (Ex × List At) := O_stb_7 (aI l 0) (aI l 1) (aRn l 2) (aRg l 2)
def μ_stb_7 (_l : List At) : Nat := 0
theorem rd_stb_7 : ∀ l r, (OL_stb_7 l).val = some r → RoundS BL_stb_7 OL_stb_7 μ_stb_7 l r := by
  intro l r hh
  unfold OL_stb_7 at hh
  obtain ⟨hc, h⟩ := guard_val hh
  have c0 := of_pdec hc
  have hr := val_ok h
  subst hr
  unfold RoundS BL_stb_7 B_stb_7
  exact brD (fun h1 => by exfalso; omega) (fun _ => out_ (by simp) rfl (AtsEq.refl _))
end Go.Proofs.Ythpcjcdiaifoiaa.G
end

/-
  What functions of the seat compute, printed by a program from the explorer.
-/
section
namespace Go.Proofs.Ythpcjcdiaifoiaa.G
open Go Go.AM Go.Proofs
theorem f_stb_7 : LoopF Try.prog 1 (loopAt Try.f63 7) (loopFn 1 lsh_stb_7 xs_stb_7 OL_stb_7) :=
  loop_sat (sy := y_stb_7) (fuel := 100) (Lp := Lp_stb_2) o_ins mixed (loopsOK_at lk_stb_2 7) rfl eB_stb_7 rd_stb_7
noncomputable def Lp_stb_7 : Loops := Loops.set Lp_stb_2 7 (loopFn 1 lsh_stb_7 xs_stb_7 OL_stb_7)
theorem lk_stb_7 : LoopsFn Try.prog 1 Lp_stb_7 Try.f63 := loopsFn_set lk_stb_2 (by kernel_rfl) f_stb_7

/-! ### stb -/

noncomputable def ish_stb : FSh := ⟨[.v false [.sw 0 4], .v false [.k (.n .i64)], .v false [.fn 44 []]], [.rows [.n .i64, .n .i64, .n .i64, .n .u64] true]⟩
noncomputable def osh_stb : FSh := ⟨[.tup []], [.rows [.n .i64, .n .i64, .n .i64, .n .u64] true]⟩
noncomputable def T_stb (x0 : Int) (n1 : Nat) (g1 : Nat → Nat → Int) : Tr (List At) :=
 .br 0 (Go.Proofs.Ythpcjcdiaifoiaa.G.pdec (x0 < (20 : Int)))
 (.br 0 (Go.Proofs.Ythpcjcdiaifoiaa.G.pdec ((0 : Int) ≤ (0 : Int) ∧ (1 : Int) ≤ (1 : Int) ∧ x0 ≤ (↑n1 : Int) ∧ n1 ≤ (1000000 : Nat)))
 (.br 0 (Go.Proofs.Ythpcjcdiaifoiaa.G.pdec (x0 ≤ (20 : Int)))
 (.ok [(.r (n1) (Go.Proofs.Ythpcjcdiaifoiaa.G.insG (0 : Nat) (Int.toNat (x0 - (1 : Int))) (1 : Nat) g1))])
 (.no))
 (.no))
 (.no)
noncomputable def y_stb : Nat → Option Nat := (syOf3 [] [] [])
noncomputable def TL_stb (l : List At) : Tr (List At) := T_stb (aI l 0) (aRn l 1) (aRg l 1)
theorem e_stb (l : List At) : (call Try.prog Γ_ins y_stb Lp_stb_7 100 Try.f63 (mkV ish_stb l) (mkH ish_stb l)).bind (leafO 1 osh_stb) = TL_stb l := by kernel_rfl
noncomputable def F_stb : List At → Tr (List At) := TL_stb
theorem s_stb : SpecF Try.prog 63 (.eff (locF ish_stb osh_stb F_stb)) :=
  spec_loc (sy := y_stb) (fuel := 100) (Lp := Lp_stb_7) o_ins mixed ⟨Try.func63, by kernel_rfl, by kernel_rfl⟩ ish_stb osh_stb lk_stb_7 (hT_ways e_stb)
noncomputable def Γ_stb : Specs := upd Γ_ins 63 (.eff (locF ish_stb osh_stb F_stb))
theorem o_stb : SpecOK Try.prog Γ_stb := SpecOK.upd o_ins s_stb

/-! ### srt -/

noncomputable def ish_srt : FSh := ⟨[.v false [.sw 0 4], .v false [.fn 44 []]], [.rows [.n .i64, .n .i64, .n .i64, .n .u64] true]⟩
noncomputable def osh_srt : FSh := ⟨[.tup []], [.rows [.n .i64, .n .i64, .n .i64, .n .u64] true]⟩
noncomputable def T_srt (n0 : Nat) (g0 : Nat → Nat → Int) : Tr (List At) :=
 .br 0 (Go.Proofs.Ythpcjcdiaifoiaa.G.pdec ((↑n0 : Int) < (20 : Int)))
 (.br 0 (Go.Proofs.Ythpcjcdiaifoiaa.G.pdec ((0 : Int) ≤ (0 : Int) ∧ (1 : Int) ≤ (1 : Int) ∧ (↑n0 : Int) ≤ (↑n0 : Int) ∧ n0 ≤ (1000000 : Nat)))
 (.br 0 (Go.Proofs.Ythpcjcdiaifoiaa.G.pdec ((↑n0 : Int) ≤ (20 : Int)))
 (.ok [(.r (n0) (Go.Proofs.Ythpcjcdiaifoiaa.G.insG (0 : Nat) (Int.toNat ((↑n0 : Int) - (1 : Int))) (1 : Nat) g0))])
 (.no))
 (.no))
 (.no)
noncomputable def y_srt : Nat → Option Nat := (syOf3 [] [] [])
noncomputable def TL_srt (l : List At) : Tr (List At) := T_srt (aRn l 0) (aRg l 0)
theorem e_srt (l : List At) : (call Try.prog Γ_stb y_srt noLoops 100 Try.f43 (mkV ish_srt l) (mkH ish_srt l)).bind (leafO 1 osh_srt) = TL_srt l := by kernel_rfl
noncomputable def F_srt : List At → Tr (List At) := TL_srt
theorem s_srt : SpecF Try.prog 43 (.eff (locF ish_srt osh_srt F_srt)) :=
  spec_loc (sy := y_srt) (fuel := 100) (Lp := noLoops) o_stb mixed ⟨Try.func43, by kernel_rfl, by kernel_rfl⟩ ish_srt osh_srt (noLoops_ok _) (hT_ways e_srt)
noncomputable def Γ_srt : Specs := upd Γ_stb 43 (.eff (locF ish_srt osh_srt F_srt))
theorem o_srt : SpecOK Try.prog Γ_srt := SpecOK.upd o_stb s_srt

end Go.Proofs.Ythpcjcdiaifoiaa.G
end

/-
  The sort, in plain words: rows as a list, each laid behind those that are not above it.
-/
section
namespace Go.Proofs.Ythpcjcdiaifoiaa.G
open Go Go.AM Go.Proofs

def rkey (r : List Int) : Int := r.getD 0 0
/-- A row sinks in what stands before it, the last one first. -/
def sinkR (x : List Int) : List (List Int) → List (List Int)
  | [] => [x]
  | y :: ys => bif decide (rkey x < rkey y) then y :: sinkR x ys else x :: y :: ys
def isr : List (List Int) → List (List Int) → List (List Int)
  | acc, [] => acc
  | acc, x :: q => isr (sinkR x acc) q
def isort (l : List (List Int)) : List (List Int) := (isr [] l).reverse

def rtl (n : Nat) (g : Nat → Nat → Int) : List (List Int) := (List.range n).map fun i => [g i 0, g i 1, g i 2, g i 3]
/-- The first rows are those of the list. -/
def RowsAre (g : Nat → Nat → Int) (l : List (List Int)) : Prop := ∀ i c, i < l.length → c < 4 → g i c = (l.getD i []).getD c 0

theorem getD_appL {α : Type} {P Q : List α} {d : α} {i : Nat} (h : i < P.length) : (P ++ Q).getD i d = P.getD i d := by
  simp [List.getD_eq_getElem?_getD, List.getElem?_append_left h]
theorem getD_appR {α : Type} {P Q : List α} {d : α} {i : Nat} (h : P.length ≤ i) : (P ++ Q).getD i d = Q.getD (i - P.length) d := by
  simp [List.getD_eq_getElem?_getD, List.getElem?_append_right h]

theorem rtl_are (n : Nat) (g : Nat → Nat → Int) : RowsAre g (rtl n g) := by
  intro i c hi hc
  have hn : i < n := by simpa [rtl] using hi
  have e : (rtl n g).getD i [] = [g i 0, g i 1, g i 2, g i 3] := by
    unfold rtl
    rw [List.getD_eq_getElem?_getD, List.getElem?_map, List.getElem?_range hn]
    rfl
  rw [e]
  match c, hc with
  | 0, _ | 1, _ | 2, _ | 3, _ => rfl

theorem rowsAre_app {g : Nat → Nat → Int} {P Q : List (List Int)} : RowsAre g (P ++ Q) ↔ RowsAre g P ∧ RowsAre (fun i => g (P.length + i)) Q := by
  constructor
  · intro h
    refine ⟨fun i c hi hc => ?_, fun i c hi hc => ?_⟩
    · rw [h i c (by simp; omega) hc, getD_appL hi]
    · show g (P.length + i) c = _
      rw [h (P.length + i) c (by simp; omega) hc, getD_appR (by omega), Nat.add_sub_cancel_left]
  · rintro ⟨h1, h2⟩ i c hi hc
    by_cases hp : i < P.length
    · rw [h1 i c hp hc, getD_appL hp]
    · have h3 := h2 (i - P.length) c (by simp at hi; omega) hc
      have h3 : g (P.length + (i - P.length)) c = (Q.getD (i - P.length) []).getD c 0 := h3
      rw [show P.length + (i - P.length) = i by omega] at h3
      rw [h3, getD_appR (by omega)]

theorem swp_are {g : Nat → Nat → Int} {P Q : List (List Int)} {x y : List Int} (h : RowsAre g (P ++ y :: x :: Q)) : RowsAre (swp g P.length) (P ++ x :: y :: Q) := by
  intro i c hi hc
  have hl : i < (P ++ y :: x :: Q).length := by simp at hi ⊢; omega
  unfold swp
  rw [if_pos hc]
  by_cases h1 : i = P.length
  · subst h1
    rw [if_pos rfl, h (P.length + 1) c (by simp) hc, getD_appR (by omega), getD_appR (by omega), Nat.add_sub_cancel_left, Nat.sub_self]
    rfl
  · rw [if_neg h1]
    by_cases h2 : i = P.length + 1
    · subst h2
      rw [if_pos rfl, h P.length c (by simp) hc, getD_appR (by omega), getD_appR (by omega), Nat.add_sub_cancel_left, Nat.sub_self]
      rfl
    · rw [if_neg h2, h i c hl hc]
      by_cases h3 : i < P.length
      · rw [getD_appL h3, getD_appL h3]
      · rw [getD_appR (by omega), getD_appR (by omega)]
        obtain ⟨k, hk⟩ : ∃ k, i - P.length = k + 2 := ⟨i - P.length - 2, by omega⟩
        rw [hk]
        rfl

theorem key_at {g : Nat → Nat → Int} {P Q : List (List Int)} {x : List Int} (h : RowsAre g (P ++ x :: Q)) : g P.length 0 = rkey x := by
  rw [h P.length 0 (by simp) (by decide), getD_appR (by omega), Nat.sub_self]
  rfl

theorem snk_are {x : List Int} : ∀ (R : List (List Int)) (Q : List (List Int)) (g : Nat → Nat → Int), RowsAre g (R.reverse ++ x :: Q) → RowsAre (snk 0 R.length g) ((sinkR x R).reverse ++ Q)
  | [], Q, g, h => by simpa [snk, sinkR] using h
  | y :: R, Q, g, h => by
    have h' : RowsAre g (R.reverse ++ y :: x :: Q) := by simpa using h
    have k1 : g (0 + R.length + 1) 0 = rkey x := by
      have := key_at (P := R.reverse ++ [y]) (x := x) (Q := Q) (g := g) (by simpa using h')
      simpa using this
    have k2 : g (0 + R.length) 0 = rkey y := by
      have := key_at (P := R.reverse) (x := y) (Q := x :: Q) h'
      simpa using this
    show RowsAre (snk 0 (R.length + 1) g) _
    rw [snk, k1, k2, sinkR]
    cases decide (rkey x < rkey y) with
    | true =>
      have hs := swp_are h'
      rw [List.length_reverse] at hs
      have := snk_are R (y :: Q) (swp g (0 + R.length)) (by rw [Nat.zero_add]; exact hs)
      simpa using this
    | false => simpa using h'

theorem sinkR_len (x : List Int) : ∀ R, (sinkR x R).length = R.length + 1
  | [] => rfl
  | y :: R => by
    rw [sinkR]
    cases decide (rkey x < rkey y) with
    | true => simp [sinkR_len x R]
    | false => simp
theorem isr_len : ∀ (Q R : List (List Int)), (isr R Q).length = R.length + Q.length
  | [], R => by simp [isr]
  | x :: Q, R => by rw [isr, isr_len Q, sinkR_len]; simp; omega
theorem isort_len (l : List (List Int)) : (isort l).length = l.length := by unfold isort; rw [List.length_reverse, isr_len]; simp

theorem insG_are : ∀ (Q R : List (List Int)) (g : Nat → Nat → Int), RowsAre g (R.reverse ++ Q) → RowsAre (insG 0 Q.length R.length g) (isr R Q).reverse
  | [], R, g, h => by simpa [insG, isr] using h
  | x :: Q, R, g, h => by
    show RowsAre (insG 0 (Q.length + 1) R.length g) _
    rw [insG, isr]
    have := insG_are Q (sinkR x R) (snk 0 R.length g) (snk_are R Q g h)
    rw [sinkR_len] at this
    exact this

theorem snk_hi {a c : Nat} (hc : 4 ≤ c) : ∀ (d : Nat) (g : Nat → Nat → Int) (i : Nat), snk a d g i c = g i c
  | 0, _, _ => rfl
  | d + 1, g, i => by
    rw [snk]
    cases decide (g (a + d + 1) 0 < g (a + d) 0) with
    | true => simp only [cond_true]; rw [snk_hi hc d]; unfold swp; rw [if_neg (by omega)]
    | false => rfl
theorem insG_hi {a c : Nat} (hc : 4 ≤ c) : ∀ (m d : Nat) (g : Nat → Nat → Int) (i : Nat), insG a m d g i c = g i c
  | 0, _, _, _ => rfl
  | m + 1, d, g, i => by rw [insG, insG_hi hc m, snk_hi hc]

def srG (n : Nat) (g : Nat → Nat → Int) : Nat → Nat → Int := fun i c => if c < 4 then lsF (isort (rtl n g)) i c else g i c

theorem srt_law (n : Nat) (g : Nat → Nat → Int) (i : Nat) (hi : i < n) (c : Nat) : insG 0 ((n : Int) - 1).toNat 1 g i c = srG n g i c := by
  unfold srG
  by_cases hc : c < 4
  · rw [if_pos hc]
    have hl : (rtl n g).length = n := by simp [rtl]
    have key : RowsAre (insG 0 ((n : Int) - 1).toNat 1 g) (isort (rtl n g)) := by
      have hr := rtl_are n g
      cases hL : rtl n g with
      | nil => rw [hL] at hl; simp at hl; omega
      | cons x Q =>
        rw [hL] at hr hl
        have := insG_are Q [x] g (by simpa using hr)
        have e : ((n : Int) - 1).toNat = Q.length := by simp at hl; omega
        rw [e]
        exact this
    exact key i c (by rw [isort_len, hl]; exact hi) hc
  · rw [if_neg hc]
    exact insG_hi (by omega) _ _ _ _

noncomputable def F2_srt (l : List At) : Tr (List At) := .br 0 (pdec (aRn l 0 < 20)) (.ok [.r (aRn l 0) (srG (aRn l 0) (aRg l 0))]) .no
theorem s2_srt : SpecF Try.prog 43 (.eff (locF ish_srt osh_srt F2_srt)) :=
  spec_loc (sy := y_srt) (fuel := 100) (Lp := noLoops) o_stb mixed ⟨Try.func43, by kernel_rfl, by kernel_rfl⟩ ish_srt osh_srt (noLoops_ok _) (hT_of e_srt fun l r h => by
    obtain ⟨h1, h⟩ := guard_val h
    have h1 := of_pdec h1
    have := val_ok h
    subst this
    exact brT (pdec_yes (by omega)) (brT (pdec_yes ⟨by decide, by decide, Int.le_refl _, by omega⟩) (brT (pdec_yes (by omega)) (Tr.sat_ok.2 (atsEq_cons ⟨rfl, fun i hi c => srt_law _ _ i hi c⟩ atsEq_nil)))))
noncomputable def Γ_R7 : Specs := upd Γ_srt 43 (.eff (locF ish_srt osh_srt F2_srt))
theorem o_R7 : SpecOK Try.prog Γ_R7 := SpecOK.upd o_srt s2_srt
end Go.Proofs.Ythpcjcdiaifoiaa.G
end

/-
  What functions of the seat compute, printed by a program from the explorer.
-/
section
namespace Go.Proofs.Ythpcjcdiaifoiaa.G
open Go Go.AM Go.Proofs
theorem f_eachS_2 : LoopF Try.prog 5 (loopAt Try.f41 2) (loopFn 5 lsh_eachS_2 xs_eachS_2 OL_eachS_2) :=
  loop_sat (sy := y_eachS_2) (fuel := 100) (Lp := noLoops) o_scan2 mixed (loopsOK_at (noLoops_ok _) 2) rfl eB_eachS_2 rd_eachS_2
noncomputable def Lp_eachS_2 : Loops := Loops.set noLoops 2 (loopFn 5 lsh_eachS_2 xs_eachS_2 OL_eachS_2)
theorem lk_eachS_2 : LoopsFn Try.prog 5 Lp_eachS_2 Try.f41 := loopsFn_set (noLoops_ok _) (by kernel_rfl) f_eachS_2

/-! ### eachS -/

noncomputable def ish_eachS : FSh := ⟨[.v false [.p 0 0], .v false [.k (.n .i64)], .v false [.k (.n .i64)], .v false [.fn 42 [(1, 0)]]], [.roc [.sw 2 25, .k .b, .k .b, .k (.n .i64), .k (.n .i64)], .cells [.sw 3 4], .nrows [.n .u64, .n .u64, .n .u64, .n .u64, .n .u64, .n .u64, .n .u64, .n .u64, .n .u64, .n .u64, .n .u64, .n .u64, .n .u64, .n .u64, .n .u64, .n .u64, .n .i64, .n .i64, .n .i64, .n .i64, .n .i64, .n .i64, .n .i64, .n .i64, .n .i64] 16 [.n .i64, .n .u64] 4 false false, .rows [.n .i64, .n .i64, .n .i64, .n .u64] true, .no]⟩
noncomputable def osh_eachS : FSh := ⟨[.v false [.k (.n .i64)]], [.no, .cells [.sw 5 4], .no, .no, .no, .rows [.n .i64, .n .i64, .n .i64, .n .u64] true]⟩
noncomputable def T_eachS (x0 : Int) (x1 : Int) (x2 : Bool) (x3 : Bool) (x4 : Int) (x5 : Int) (n6 : Nat) (g6 : Nat → Nat → Int) (h6 : Nat → Nat → Int) (n7 : Nat) (g7 : Nat → Nat → Int) : Tr (List At) :=
 .br 0 (Go.Proofs.Ythpcjcdiaifoiaa.G.pdec ((1 : Int) ≤ x0 ∧ x1 ≤ (1000 : Int) ∧ n7 + Int.toNat (x1 - x0) ≤ (1000000 : Nat)))
 (.br 0 (Go.Proofs.Ythpcjcdiaifoiaa.G.scC { n := n6, g := g6, h := h6, off := x2, burns := x3, left := x4, steps := x5 } (Int.toNat (x1 - x0)) x0 != (0 : Int))
 (.ok [(.i (Go.Proofs.Ythpcjcdiaifoiaa.G.scC { n := n6, g := g6, h := h6, off := x2, burns := x3, left := x4, steps := x5 } (Int.toNat (x1 - x0)) x0)), (.r (n7 + List.length (Go.Proofs.Ythpcjcdiaifoiaa.G.scR { n := n6, g := g6, h := h6, off := x2, burns := x3, left := x4, steps := x5 } (Int.toNat (x1 - x0)) x0)) (Go.AM.appG g7 n7 (Go.Proofs.Ythpcjcdiaifoiaa.G.lsF (Go.Proofs.Ythpcjcdiaifoiaa.G.scR { n := n6, g := g6, h := h6, off := x2, burns := x3, left := x4, steps := x5 } (Int.toNat (x1 - x0)) x0))))])
 (.ok [(.i ((0 : Int))), (.r (n7 + List.length (Go.Proofs.Ythpcjcdiaifoiaa.G.scR { n := n6, g := g6, h := h6, off := x2, burns := x3, left := x4, steps := x5 } (Int.toNat (x1 - x0)) x0)) (Go.AM.appG g7 n7 (Go.Proofs.Ythpcjcdiaifoiaa.G.lsF (Go.Proofs.Ythpcjcdiaifoiaa.G.scR { n := n6, g := g6, h := h6, off := x2, burns := x3, left := x4, steps := x5 } (Int.toNat (x1 - x0)) x0))))]))
 (.no)
noncomputable def y_eachS : Nat → Option Nat := (syOf3 [] [] [])
noncomputable def TL_eachS (l : List At) : Tr (List At) := T_eachS (aI l 0) (aI l 1) (aB l 2) (aB l 3) (aI l 4) (aI l 5) (aRn l 6) (aRg l 6) (aMh l 6 16 2) (aRn l 7) (aRg l 7)
theorem e_eachS (l : List At) : (call Try.prog Γ_scan2 y_eachS Lp_eachS_2 100 Try.f41 (mkV ish_eachS l) (mkH ish_eachS l)).bind (leafO 5 osh_eachS) = TL_eachS l := by kernel_rfl
noncomputable def F_eachS : List At → Tr (List At) := TL_eachS
theorem s_eachS : SpecF Try.prog 41 (.eff (locF ish_eachS osh_eachS F_eachS)) :=
  spec_loc (sy := y_eachS) (fuel := 100) (Lp := Lp_eachS_2) o_scan2 mixed ⟨Try.func41, by kernel_rfl, by kernel_rfl⟩ ish_eachS osh_eachS lk_eachS_2 (hT_ways e_eachS)
noncomputable def Γ_eachS : Specs := upd Γ_scan2 41 (.eff (locF ish_eachS osh_eachS F_eachS))
theorem o_eachS : SpecOK Try.prog Γ_eachS := SpecOK.upd o_scan2 s_eachS

end Go.Proofs.Ythpcjcdiaifoiaa.G
end

/-
  each, for Scan, in plain words.
-/
section
namespace Go.Proofs.Ythpcjcdiaifoiaa.G
open Go Go.AM Go.Proofs

noncomputable def F2_eachS (l : List At) : Tr (List At) := .br 0 (pdec (1 ≤ aI l 0 ∧ aI l 1 ≤ 1000 ∧ aRn l 7 + (aI l 1 - aI l 0).toNat ≤ 1000000))
  (.ok [.i (scC (mm l 2) (aI l 1 - aI l 0).toNat (aI l 0)), .r (aRn l 7 + (scR (mm l 2) (aI l 1 - aI l 0).toNat (aI l 0)).length) (appG (aRg l 7) (aRn l 7) (lsF (scR (mm l 2) (aI l 1 - aI l 0).toNat (aI l 0))))]) .no
theorem s2_eachS : SpecF Try.prog 41 (.eff (locF ish_eachS osh_eachS F2_eachS)) :=
  spec_loc (sy := y_eachS) (fuel := 100) (Lp := Lp_eachS_2) o_scan2 mixed ⟨Try.func41, by kernel_rfl, by kernel_rfl⟩ ish_eachS osh_eachS lk_eachS_2 (hT_of e_eachS fun l r h => by
    obtain ⟨h1, h⟩ := guard_val h
    have := val_ok h
    subst this
    refine brT h1 (brC (fun _ => Tr.sat_ok.2 (AtsEq.refl _)) (fun hf => Tr.sat_ok.2 ?_))
    have e : scC (mm l 2) (aI l 1 - aI l 0).toNat (aI l 0) = 0 := by
      have h2 : (scC (mm l 2) (aI l 1 - aI l 0).toNat (aI l 0) != 0) = false := hf
      simpa using h2
    rw [e]
    exact AtsEq.refl _)
noncomputable def Γ_R8 : Specs := upd Γ_R7 41 (.eff (locF ish_eachS osh_eachS F2_eachS))
theorem o_R8 : SpecOK Try.prog Γ_R8 := SpecOK.upd o_R7 s2_eachS
end Go.Proofs.Ythpcjcdiaifoiaa.G
end

/-
  What functions of the seat compute, printed by a program from the explorer.
-/
section
namespace Go.Proofs.Ythpcjcdiaifoiaa.G
open Go Go.AM Go.Proofs
/-! ### rscan -/

noncomputable def ish_rscan : FSh := ⟨[.v false [.p 0 0], .v false [.k (.n .i64)]], [.roc [.sw 1 25, .k .b, .k .b, .k (.n .i64), .k (.n .i64)], .nrows [.n .u64, .n .u64, .n .u64, .n .u64, .n .u64, .n .u64, .n .u64, .n .u64, .n .u64, .n .u64, .n .u64, .n .u64, .n .u64, .n .u64, .n .u64, .n .u64, .n .i64, .n .i64, .n .i64, .n .i64, .n .i64, .n .i64, .n .i64, .n .i64, .n .i64] 16 [.n .i64, .n .u64] 2 false false, .no]⟩
noncomputable def osh_rscan : FSh := ⟨[.tup [(false, [.sw 3 4]), (false, [.k (.n .i64)])]], [.no, .no, .no, .rows [.n .i64, .n .i64, .n .i64, .n .u64] true]⟩
noncomputable def T_rscan (x0 : Int) (x1 : Bool) (x2 : Bool) (x3 : Int) (x4 : Int) (n5 : Nat) (g5 : Nat → Nat → Int) (h5 : Nat → Nat → Int) : Tr (List At) :=
 .br 10 (Decidable.decide (x0 < (1 : Int)))
 (.ok [(.i ((1 : Int))), (.r ((0 : Nat)) (fun (_ _ : Nat) => (0 : Int)))])
 (.br 13 (Decidable.decide (x0 > (8 : Int)))
 (.ok [(.i ((1 : Int))), (.r ((0 : Nat)) (fun (_ _ : Nat) => (0 : Int)))])
 (.br 0 (Go.Proofs.Ythpcjcdiaifoiaa.G.pdec ((1 : Int) ≤ (2 : Int) ∧ Go.Proofs.Ythpcjcdiaifoiaa.G.r_lPlace_0 x0 (0 : Int) ≤ (1000 : Int) ∧ (0 : Nat) + Int.toNat (Go.Proofs.Ythpcjcdiaifoiaa.G.r_lPlace_0 x0 (0 : Int) - (2 : Int)) ≤ (1000000 : Nat)))
 (.br 21 (Go.Proofs.Ythpcjcdiaifoiaa.G.scC { n := n5, g := g5, h := h5, off := x1, burns := x2, left := x3, steps := x4 } (Int.toNat (Go.Proofs.Ythpcjcdiaifoiaa.G.r_lPlace_0 x0 (0 : Int) - (2 : Int))) (2 : Int) != (0 : Int))
 (.ok [(.i (Go.Proofs.Ythpcjcdiaifoiaa.G.scC { n := n5, g := g5, h := h5, off := x1, burns := x2, left := x3, steps := x4 } (Int.toNat (Go.Proofs.Ythpcjcdiaifoiaa.G.r_lPlace_0 x0 (0 : Int) - (2 : Int))) (2 : Int))), (.r ((0 : Nat)) (fun (_ _ : Nat) => (0 : Int)))])
 (.br 0 (Go.Proofs.Ythpcjcdiaifoiaa.G.pdec ((0 : Nat) + List.length (Go.Proofs.Ythpcjcdiaifoiaa.G.scR { n := n5, g := g5, h := h5, off := x1, burns := x2, left := x3, steps := x4 } (Int.toNat (Go.Proofs.Ythpcjcdiaifoiaa.G.r_lPlace_0 x0 (0 : Int) - (2 : Int))) (2 : Int)) < (20 : Nat)))
 (.ok [(.i ((0 : Int))), (.r ((0 : Nat) + List.length (Go.Proofs.Ythpcjcdiaifoiaa.G.scR { n := n5, g := g5, h := h5, off := x1, burns := x2, left := x3, steps := x4 } (Int.toNat (Go.Proofs.Ythpcjcdiaifoiaa.G.r_lPlace_0 x0 (0 : Int) - (2 : Int))) (2 : Int))) (Go.Proofs.Ythpcjcdiaifoiaa.G.srG ((0 : Nat) + List.length (Go.Proofs.Ythpcjcdiaifoiaa.G.scR { n := n5, g := g5, h := h5, off := x1, burns := x2, left := x3, steps := x4 } (Int.toNat (Go.Proofs.Ythpcjcdiaifoiaa.G.r_lPlace_0 x0 (0 : Int) - (2 : Int))) (2 : Int))) (Go.AM.appG (fun (_ _ : Nat) => (0 : Int)) (0 : Nat) (Go.Proofs.Ythpcjcdiaifoiaa.G.lsF (Go.Proofs.Ythpcjcdiaifoiaa.G.scR { n := n5, g := g5, h := h5, off := x1, burns := x2, left := x3, steps := x4 } (Int.toNat (Go.Proofs.Ythpcjcdiaifoiaa.G.r_lPlace_0 x0 (0 : Int) - (2 : Int))) (2 : Int))))))])
 (.no)))
 (.no)))
noncomputable def y_rscan : Nat → Option Nat := (syOf3 [10, 13, 21] [] [])
noncomputable def TL_rscan (l : List At) : Tr (List At) := T_rscan (aI l 0) (aB l 1) (aB l 2) (aI l 3) (aI l 4) (aRn l 5) (aRg l 5) (aMh l 5 16 2)
theorem e_rscan (l : List At) : (call Try.prog Γ_R8 y_rscan noLoops 100 Try.f19 (mkV ish_rscan l) (mkH ish_rscan l)).bind (leafO 3 osh_rscan) = TL_rscan l := by kernel_rfl
noncomputable def F_rscan : List At → Tr (List At) := TL_rscan
theorem s_rscan : SpecF Try.prog 19 (.eff (locF ish_rscan osh_rscan F_rscan)) :=
  spec_loc (sy := y_rscan) (fuel := 100) (Lp := noLoops) o_R8 mixed ⟨Try.func19, by kernel_rfl, by kernel_rfl⟩ ish_rscan osh_rscan (noLoops_ok _) (hT_ways e_rscan)
noncomputable def Γ_rscan : Specs := upd Γ_R8 19 (.eff (locF ish_rscan osh_rscan F_rscan))
theorem o_rscan : SpecOK Try.prog Γ_rscan := SpecOK.upd o_R8 s_rscan

end Go.Proofs.Ythpcjcdiaifoiaa.G
end

/-
  Scan, in plain words.
-/
section
namespace Go.Proofs.Ythpcjcdiaifoiaa.G
open Go Go.AM Go.Proofs

def coresB (c : Int) : Bool := decide (c < 1) || decide (c > 8)
def scanC (m : Mem) (c : Int) : Int := bif coresB c then 1 else scC m (4 * c).toNat 2
def scanL (m : Mem) (c : Int) : List (List Int) := bif coresB c then [] else bif scC m (4 * c).toNat 2 != 0 then [] else isort (scR m (4 * c).toNat 2)

theorem recOf_len (r : Nat → Int) : (recOf r).length = 4 := rfl
theorem scR_rec (m : Mem) : ∀ (k : Nat) (i : Int) (x : List Int), x ∈ scR m k i → x.length = 4
  | 0, _, x, h => by simp [scR] at h
  | k + 1, i, x, h => by
    rw [scR] at h
    cases h1 : m.ldC i != 0 with
    | true => rw [h1] at h; simp at h
    | false =>
      rw [h1] at h
      cases h2 : lrB (m.ln i) with
      | true =>
        rw [h2] at h
        simp only [cond_false, cond_true, List.mem_cons] at h
        rcases h with rfl | h
        · rfl
        · exact scR_rec m k _ x h
      | false => rw [h2] at h; exact scR_rec m k _ x h
theorem sinkR_mem {x y : List Int} : ∀ {R : List (List Int)}, y ∈ sinkR x R ↔ y = x ∨ y ∈ R
  | [] => by simp [sinkR]
  | z :: R => by
    rw [sinkR]
    cases decide (rkey x < rkey z) with
    | true =>
      simp only [cond_true, List.mem_cons, sinkR_mem (R := R)]
      constructor <;> rintro (h | h | h) <;> simp [h]
    | false => simp
theorem isr_mem {y : List Int} : ∀ {Q R : List (List Int)}, y ∈ isr R Q ↔ y ∈ R ∨ y ∈ Q
  | [], R => by simp [isr]
  | x :: Q, R => by
    rw [isr, isr_mem (Q := Q), sinkR_mem]
    simp only [List.mem_cons]
    constructor
    · rintro ((h | h) | h) <;> simp [h]
    · rintro (h | h | h) <;> simp [h]
theorem isort_mem {y : List Int} {l : List (List Int)} : y ∈ isort l ↔ y ∈ l := by unfold isort; rw [List.mem_reverse, isr_mem]; simp

theorem getD_mem {α : Type} {l : List α} {d : α} {i : Nat} (h : i < l.length) : l.getD i d ∈ l := by
  rw [List.getD_eq_getElem?_getD, List.getElem?_eq_getElem h]
  exact List.getElem_mem h
theorem lsF_hi {l : List (List Int)} (h : ∀ x, x ∈ l → x.length = 4) {i c : Nat} (hi : i < l.length) (hc : 4 ≤ c) : lsF l i c = 0 := by
  unfold lsF
  have := h _ (getD_mem (d := []) hi)
  rw [List.getD_eq_getElem?_getD, List.getElem?_eq_none (by omega)]
  rfl
theorem four {x : List Int} (h : x.length = 4) : [x.getD 0 0, x.getD 1 0, x.getD 2 0, x.getD 3 0] = x := by
  match x, h with
  | [a, b, c, d], _ => rfl
theorem rtl_lsF {l : List (List Int)} (h : ∀ x, x ∈ l → x.length = 4) : rtl l.length (lsF l) = l := by
  apply List.ext_getElem?
  intro i
  unfold rtl
  by_cases hi : i < l.length
  · rw [List.getElem?_map, List.getElem?_range hi, List.getElem?_eq_getElem hi]
    have e : l.getD i [] = l[i] := by rw [List.getD_eq_getElem?_getD, List.getElem?_eq_getElem hi]; rfl
    show some [(l.getD i []).getD 0 0, (l.getD i []).getD 1 0, (l.getD i []).getD 2 0, (l.getD i []).getD 3 0] = some l[i]
    rw [e, four (h _ (List.getElem_mem hi))]
  · rw [List.getElem?_eq_none (by simp; omega), List.getElem?_eq_none (by omega)]

theorem srG_law {l : List (List Int)} (h : ∀ x, x ∈ l → x.length = 4) (i : Nat) (hi : i < l.length) (c : Nat) : srG l.length (appG (fun _ _ => 0) 0 (lsF l)) i c = lsF (isort l) i c := by
  have e : appG (fun _ _ => 0) 0 (lsF l) = lsF l := by
    funext j d
    unfold appG
    rw [if_neg (by omega), Nat.sub_zero]
  rw [e]
  unfold srG
  rw [rtl_lsF h]
  by_cases hc : c < 4
  · rw [if_pos hc]
  · rw [if_neg hc, lsF_hi h hi (by omega), lsF_hi (fun x hx => h x (isort_mem.1 hx)) (by rw [isort_len]; exact hi) (by omega)]

noncomputable def F2_rscan (l : List At) : Tr (List At) := .br 0 (pdec ((scR (mm l 1) (4 * aI l 0).toNat 2).length < 20)) (.ok [.i (scanC (mm l 1) (aI l 0)), .r (scanL (mm l 1) (aI l 0)).length (lsF (scanL (mm l 1) (aI l 0)))]) .no

theorem t_rscan (c : Int) (m : Mem) (h : (scR m (4 * c).toNat 2).length < 20) : (T_rscan c m.off m.burns m.left m.steps m.n m.g m.h).sat fun r => AtsEq r [.i (scanC m c), .r (scanL m c).length (lsF (scanL m c))] := by
  unfold T_rscan scanC scanL coresB
  refine brD (fun h1 => Tr.sat_ok.2 ?_) (fun h1 => brD (fun h2 => Tr.sat_ok.2 ?_) (fun h2 => ?_))
  · rw [decide_eq_true h1]; exact atsEq_cons (AtEq.refl _) (atsEq_cons ⟨rfl, fun i hi => absurd hi (Nat.not_lt_zero _)⟩ atsEq_nil)
  · rw [decide_eq_false h1, decide_eq_true h2]; exact atsEq_cons (AtEq.refl _) (atsEq_cons ⟨rfl, fun i hi => absurd hi (Nat.not_lt_zero _)⟩ atsEq_nil)
  · have hk : (2 + 4 * c + 0 - 2).toNat = (4 * c).toNat := by omega
    rw [decide_eq_false h1, decide_eq_false h2, place_eq ⟨by omega, by omega⟩ (by decide), hk]
    refine brT (pdec_yes ⟨by decide, by omega, by omega⟩) ?_
    show (Tr.br 21 (scC m (4 * c).toNat 2 != 0) _ _).sat _
    refine brC (fun h3 => Tr.sat_ok.2 ?_) (fun h3 => brT (pdec_yes (by rw [Nat.zero_add]; exact h)) (Tr.sat_ok.2 ?_))
    · rw [h3]; exact atsEq_cons (AtEq.refl _) (atsEq_cons ⟨rfl, fun i hi => absurd hi (Nat.not_lt_zero _)⟩ atsEq_nil)
    · have e : scC m (4 * c).toNat 2 = 0 := by simpa using h3
      rw [h3, Nat.zero_add]
      show AtsEq [.i 0, .r (scR m (4 * c).toNat 2).length (srG (scR m (4 * c).toNat 2).length (appG (fun _ _ => 0) 0 (lsF (scR m (4 * c).toNat 2))))] [.i (scC m (4 * c).toNat 2), .r (isort (scR m (4 * c).toNat 2)).length (lsF (isort (scR m (4 * c).toNat 2)))]
      rw [e]
      exact atsEq_cons (AtEq.refl _) (atsEq_cons ⟨(isort_len _).symm, fun i hi c => srG_law (scR_rec m _ _) i hi c⟩ atsEq_nil)

theorem s2_rscan : SpecF Try.prog 19 (.eff (locF ish_rscan osh_rscan F2_rscan)) :=
  spec_loc (sy := y_rscan) (fuel := 100) (Lp := noLoops) o_R8 mixed ⟨Try.func19, by kernel_rfl, by kernel_rfl⟩ ish_rscan osh_rscan (noLoops_ok _) (hT_of e_rscan fun l r h => by
    obtain ⟨h1, h⟩ := guard_val h
    have := val_ok h
    subst this
    exact t_rscan (aI l 0) (mm l 1) (of_pdec h1))
noncomputable def Γ_R9 : Specs := upd Γ_rscan 19 (.eff (locF ish_rscan osh_rscan F2_rscan))
theorem o_R9 : SpecOK Try.prog Γ_R9 := SpecOK.upd o_rscan s2_rscan
end Go.Proofs.Ythpcjcdiaifoiaa.G
end

/-
  What functions of the seat compute, printed by a program from the explorer.
-/
section
namespace Go.Proofs.Ythpcjcdiaifoiaa.G
open Go Go.AM Go.Proofs
/-! ### shown -/

noncomputable def ish_shown : FSh := ⟨[], []⟩
noncomputable def osh_shown : FSh := ⟨[.v false [.k .b]], []⟩
noncomputable def shown_c0  : Bool := Go.Proofs.Ythpcjcdiaifoiaa.G.pdec (Go.Proofs.Ythpcjcdiaifoiaa.G.Mem.Ok (880000 : Int) (Go.Proofs.Ythpcjcdiaifoiaa.G.Mem.feM (Go.Proofs.Ythpcjcdiaifoiaa.G.Mem.flM (Go.Proofs.Ythpcjcdiaifoiaa.G.Mem.stM (Go.Proofs.Ythpcjcdiaifoiaa.G.Mem.stM (Go.Proofs.Ythpcjcdiaifoiaa.G.Mem.stM (Go.Proofs.Ythpcjcdiaifoiaa.G.Mem.stM (Go.Proofs.Ythpcjcdiaifoiaa.G.Mem.stM (Go.Proofs.Ythpcjcdiaifoiaa.G.Mem.stM (Go.Proofs.Ythpcjcdiaifoiaa.G.Mem.stM (Go.Proofs.Ythpcjcdiaifoiaa.G.Mem.stM (Go.Proofs.Ythpcjcdiaifoiaa.G.Mem.stM (Go.Proofs.Ythpcjcdiaifoiaa.G.Mem.feM (Go.Proofs.Ythpcjcdiaifoiaa.G.Mem.flM (Go.Proofs.Ythpcjcdiaifoiaa.G.Mem.stM (Go.Proofs.Ythpcjcdiaifoiaa.G.Mem.stM (Go.Proofs.Ythpcjcdiaifoiaa.G.Mem.stM (Go.Proofs.Ythpcjcdiaifoiaa.G.Mem.stM (Go.Proofs.Ythpcjcdiaifoiaa.G.Mem.stM (Go.Proofs.Ythpcjcdiaifoiaa.G.Mem.stM (Go.Proofs.Ythpcjcdiaifoiaa.G.Mem.stM (Go.Proofs.Ythpcjcdiaifoiaa.G.Mem.stM (Go.Proofs.Ythpcjcdiaifoiaa.G.Mem.stM (Go.Proofs.Ythpcjcdiaifoiaa.G.Mem.feM (Go.Proofs.Ythpcjcdiaifoiaa.G.Mem.flM (Go.Proofs.Ythpcjcdiaifoiaa.G.Mem.stM (Go.Proofs.Ythpcjcdiaifoiaa.G.Mem.stM (Go.Proofs.Ythpcjcdiaifoiaa.G.Mem.stM (Go.Proofs.Ythpcjcdiaifoiaa.G.Mem.stM (Go.Proofs.Ythpcjcdiaifoiaa.G.Mem.stM (Go.Proofs.Ythpcjcdiaifoiaa.G.Mem.stM (Go.Proofs.Ythpcjcdiaifoiaa.G.Mem.stM (Go.Proofs.Ythpcjcdiaifoiaa.G.Mem.stM (Go.Proofs.Ythpcjcdiaifoiaa.G.Mem.stM (Go.Proofs.Ythpcjcdiaifoiaa.G.Mem.feM (Go.Proofs.Ythpcjcdiaifoiaa.G.Mem.flM (Go.Proofs.Ythpcjcdiaifoiaa.G.Mem.stM (Go.Proofs.Ythpcjcdiaifoiaa.G.Mem.stM (Go.Proofs.Ythpcjcdiaifoiaa.G.Mem.stM (Go.Proofs.Ythpcjcdiaifoiaa.G.Mem.stM (Go.Proofs.Ythpcjcdiaifoiaa.G.Mem.stM (Go.Proofs.Ythpcjcdiaifoiaa.G.Mem.stM (Go.Proofs.Ythpcjcdiaifoiaa.G.Mem.stM (Go.Proofs.Ythpcjcdiaifoiaa.G.Mem.stM (Go.Proofs.Ythpcjcdiaifoiaa.G.Mem.stM (Go.Proofs.Ythpcjcdiaifoiaa.G.newM (64 : Nat)) (2 : Int) (7 : Int) (0 : Int)) (2 : Int) (0 : Int) (274726912 : Int)) (2 : Int) (1 : Int) (1 : Int)) (2 : Int) (2 : Int) (5 : Int)) (2 : Int) (3 : Int) (2 : Int)) (2 : Int) (4 : Int) (9 : Int)) (2 : Int) (5 : Int) (0 : Int)) (2 : Int) (6 : Int) (0 : Int)) (2 : Int) (7 : Int) (4961962709 : Int)) (0 : Int) (2 : Int)) (0 : Int)) (3 : Int) (7 : Int) (0 : Int)) (3 : Int) (0 : Int) (274726912 : Int)) (3 : Int) (1 : Int) (2 : Int)) (3 : Int) (2 : Int) (0 : Int)) (3 : Int) (3 : Int) (0 : Int)) (3 : Int) (4 : Int) (0 : Int)) (3 : Int) (5 : Int) (0 : Int)) (3 : Int) (6 : Int) (0 : Int)) (3 : Int) (7 : Int) (6261783205 : Int)) (0 : Int) (3 : Int)) (0 : Int)) (4 : Int) (7 : Int) (0 : Int)) (4 : Int) (0 : Int) (274726912 : Int)) (4 : Int) (1 : Int) (3 : Int)) (4 : Int) (2 : Int) (0 : Int)) (4 : Int) (3 : Int) (0 : Int)) (4 : Int) (4 : Int) (0 : Int)) (4 : Int) (5 : Int) (0 : Int)) (4 : Int) (6 : Int) (0 : Int)) (4 : Int) (7 : Int) (5512025721 : Int)) (0 : Int) (4 : Int)) (0 : Int)) (5 : Int) (7 : Int) (0 : Int)) (5 : Int) (0 : Int) (274726912 : Int)) (5 : Int) (1 : Int) (4 : Int)) (5 : Int) (2 : Int) (0 : Int)) (5 : Int) (3 : Int) (0 : Int)) (5 : Int) (4 : Int) (0 : Int)) (5 : Int) (5 : Int) (0 : Int)) (5 : Int) (6 : Int) (0 : Int)) (5 : Int) (7 : Int) (8466157677 : Int)) (0 : Int) (5 : Int)) (0 : Int)))
noncomputable def shown_c1  : Bool := Go.Proofs.Ythpcjcdiaifoiaa.G.pdec (Go.Proofs.Ythpcjcdiaifoiaa.G.Mem.Ok (880000 : Int) (Go.Proofs.Ythpcjcdiaifoiaa.G.Mem.feM (Go.Proofs.Ythpcjcdiaifoiaa.G.Mem.flM (Go.Proofs.Ythpcjcdiaifoiaa.G.Mem.stM (Go.Proofs.Ythpcjcdiaifoiaa.G.Mem.stM (Go.Proofs.Ythpcjcdiaifoiaa.G.Mem.stM (Go.Proofs.Ythpcjcdiaifoiaa.G.Mem.stM (Go.Proofs.Ythpcjcdiaifoiaa.G.Mem.stM (Go.Proofs.Ythpcjcdiaifoiaa.G.Mem.stM (Go.Proofs.Ythpcjcdiaifoiaa.G.Mem.stM (Go.Proofs.Ythpcjcdiaifoiaa.G.Mem.stM (Go.Proofs.Ythpcjcdiaifoiaa.G.Mem.stM (Go.Proofs.Ythpcjcdiaifoiaa.G.Mem.feM (Go.Proofs.Ythpcjcdiaifoiaa.G.Mem.flM (Go.Proofs.Ythpcjcdiaifoiaa.G.Mem.stM (Go.Proofs.Ythpcjcdiaifoiaa.G.Mem.stM (Go.Proofs.Ythpcjcdiaifoiaa.G.Mem.stM (Go.Proofs.Ythpcjcdiaifoiaa.G.Mem.stM (Go.Proofs.Ythpcjcdiaifoiaa.G.Mem.stM (Go.Proofs.Ythpcjcdiaifoiaa.G.Mem.stM (Go.Proofs.Ythpcjcdiaifoiaa.G.Mem.stM (Go.Proofs.Ythpcjcdiaifoiaa.G.Mem.stM (Go.Proofs.Ythpcjcdiaifoiaa.G.Mem.stM (Go.Proofs.Ythpcjcdiaifoiaa.G.Mem.feM (Go.Proofs.Ythpcjcdiaifoiaa.G.Mem.flM (Go.Proofs.Ythpcjcdiaifoiaa.G.Mem.stM (Go.Proofs.Ythpcjcdiaifoiaa.G.Mem.stM (Go.Proofs.Ythpcjcdiaifoiaa.G.Mem.stM (Go.Proofs.Ythpcjcdiaifoiaa.G.Mem.stM (Go.Proofs.Ythpcjcdiaifoiaa.G.Mem.stM (Go.Proofs.Ythpcjcdiaifoiaa.G.Mem.stM (Go.Proofs.Ythpcjcdiaifoiaa.G.Mem.stM (Go.Proofs.Ythpcjcdiaifoiaa.G.Mem.stM (Go.Proofs.Ythpcjcdiaifoiaa.G.Mem.stM (Go.Proofs.Ythpcjcdiaifoiaa.G.newM (64 : Nat)) (2 : Int) (7 : Int) (0 : Int)) (2 : Int) (0 : Int) (274726912 : Int)) (2 : Int) (1 : Int) (1 : Int)) (2 : Int) (2 : Int) (5 : Int)) (2 : Int) (3 : Int) (2 : Int)) (2 : Int) (4 : Int) (9 : Int)) (2 : Int) (5 : Int) (0 : Int)) (2 : Int) (6 : Int) (0 : Int)) (2 : Int) (7 : Int) (4961962709 : Int)) (0 : Int) (2 : Int)) (0 : Int)) (3 : Int) (7 : Int) (0 : Int)) (3 : Int) (0 : Int) (274726912 : Int)) (3 : Int) (1 : Int) (2 : Int)) (3 : Int) (2 : Int) (0 : Int)) (3 : Int) (3 : Int) (0 : Int)) (3 : Int) (4 : Int) (0 : Int)) (3 : Int) (5 : Int) (0 : Int)) (3 : Int) (6 : Int) (0 : Int)) (3 : Int) (7 : Int) (6261783205 : Int)) (0 : Int) (3 : Int)) (0 : Int)) (4 : Int) (7 : Int) (0 : Int)) (4 : Int) (0 : Int) (274726912 : Int)) (4 : Int) (1 : Int) (3 : Int)) (4 : Int) (2 : Int) (0 : Int)) (4 : Int) (3 : Int) (0 : Int)) (4 : Int) (4 : Int) (0 : Int)) (4 : Int) (5 : Int) (0 : Int)) (4 : Int) (6 : Int) (0 : Int)) (4 : Int) (7 : Int) (5512025721 : Int)) (0 : Int) (4 : Int)) (0 : Int)))
noncomputable def shown_c2  : Bool := Go.Proofs.Ythpcjcdiaifoiaa.G.pdec (Go.Proofs.Ythpcjcdiaifoiaa.G.Mem.Ok (880000 : Int) (Go.Proofs.Ythpcjcdiaifoiaa.G.Mem.feM (Go.Proofs.Ythpcjcdiaifoiaa.G.Mem.flM (Go.Proofs.Ythpcjcdiaifoiaa.G.Mem.stM (Go.Proofs.Ythpcjcdiaifoiaa.G.Mem.stM (Go.Proofs.Ythpcjcdiaifoiaa.G.Mem.stM (Go.Proofs.Ythpcjcdiaifoiaa.G.Mem.stM (Go.Proofs.Ythpcjcdiaifoiaa.G.Mem.stM (Go.Proofs.Ythpcjcdiaifoiaa.G.Mem.stM (Go.Proofs.Ythpcjcdiaifoiaa.G.Mem.stM (Go.Proofs.Ythpcjcdiaifoiaa.G.Mem.stM (Go.Proofs.Ythpcjcdiaifoiaa.G.Mem.stM (Go.Proofs.Ythpcjcdiaifoiaa.G.Mem.feM (Go.Proofs.Ythpcjcdiaifoiaa.G.Mem.flM (Go.Proofs.Ythpcjcdiaifoiaa.G.Mem.stM (Go.Proofs.Ythpcjcdiaifoiaa.G.Mem.stM (Go.Proofs.Ythpcjcdiaifoiaa.G.Mem.stM (Go.Proofs.Ythpcjcdiaifoiaa.G.Mem.stM (Go.Proofs.Ythpcjcdiaifoiaa.G.Mem.stM (Go.Proofs.Ythpcjcdiaifoiaa.G.Mem.stM (Go.Proofs.Ythpcjcdiaifoiaa.G.Mem.stM (Go.Proofs.Ythpcjcdiaifoiaa.G.Mem.stM (Go.Proofs.Ythpcjcdiaifoiaa.G.Mem.stM (Go.Proofs.Ythpcjcdiaifoiaa.G.newM (64 : Nat)) (2 : Int) (7 : Int) (0 : Int)) (2 : Int) (0 : Int) (274726912 : Int)) (2 : Int) (1 : Int) (1 : Int)) (2 : Int) (2 : Int) (5 : Int)) (2 : Int) (3 : Int) (2 : Int)) (2 : Int) (4 : Int) (9 : Int)) (2 : Int) (5 : Int) (0 : Int)) (2 : Int) (6 : Int) (0 : Int)) (2 : Int) (7 : Int) (4961962709 : Int)) (0 : Int) (2 : Int)) (0 : Int)) (3 : Int) (7 : Int) (0 : Int)) (3 : Int) (0 : Int) (274726912 : Int)) (3 : Int) (1 : Int) (2 : Int)) (3 : Int) (2 : Int) (0 : Int)) (3 : Int) (3 : Int) (0 : Int)) (3 : Int) (4 : Int) (0 : Int)) (3 : Int) (5 : Int) (0 : Int)) (3 : Int) (6 : Int) (0 : Int)) (3 : Int) (7 : Int) (6261783205 : Int)) (0 : Int) (3 : Int)) (0 : Int)))
noncomputable def T_shown  : Tr (List At) :=
 .br 0 (Bool.false)
 (.ok [(.b (Bool.false))])
 (.br 0 (Go.Proofs.Ythpcjcdiaifoiaa.G.pdec (Go.Proofs.Ythpcjcdiaifoiaa.G.Mem.Ok (880000 : Int) (Go.Proofs.Ythpcjcdiaifoiaa.G.newM (64 : Nat))))
 (.br 0 (Go.Proofs.Ythpcjcdiaifoiaa.G.pdec ((1 : Nat) < (20 : Nat)))
 (.br 0 (Go.Proofs.Ythpcjcdiaifoiaa.G.pdec (Go.Proofs.Ythpcjcdiaifoiaa.G.Mem.Ok (880000 : Int) (Go.Proofs.Ythpcjcdiaifoiaa.G.Mem.feM (Go.Proofs.Ythpcjcdiaifoiaa.G.Mem.flM (Go.Proofs.Ythpcjcdiaifoiaa.G.Mem.stM (Go.Proofs.Ythpcjcdiaifoiaa.G.Mem.stM (Go.Proofs.Ythpcjcdiaifoiaa.G.Mem.stM (Go.Proofs.Ythpcjcdiaifoiaa.G.Mem.stM (Go.Proofs.Ythpcjcdiaifoiaa.G.Mem.stM (Go.Proofs.Ythpcjcdiaifoiaa.G.Mem.stM (Go.Proofs.Ythpcjcdiaifoiaa.G.Mem.stM (Go.Proofs.Ythpcjcdiaifoiaa.G.Mem.stM (Go.Proofs.Ythpcjcdiaifoiaa.G.Mem.stM (Go.Proofs.Ythpcjcdiaifoiaa.G.newM (64 : Nat)) (2 : Int) (7 : Int) (0 : Int)) (2 : Int) (0 : Int) (274726912 : Int)) (2 : Int) (1 : Int) (1 : Int)) (2 : Int) (2 : Int) (5 : Int)) (2 : Int) (3 : Int) (2 : Int)) (2 : Int) (4 : Int) (9 : Int)) (2 : Int) (5 : Int) (0 : Int)) (2 : Int) (6 : Int) (0 : Int)) (2 : Int) (7 : Int) (4961962709 : Int)) (0 : Int) (2 : Int)) (0 : Int))))
 (.br 0 ((shown_c2))
 (.br 0 ((shown_c1))
 (.br 0 ((shown_c0))
 (.ok [(.b (Bool.true))])
 (.no))
 (.no))
 (.no))
 (.no))
 (.no))
 (.no))
noncomputable def y_shown : Nat → Option Nat := (syOf3 [] [] [])
noncomputable def TL_shown (l : List At) : Tr (List At) := T_shown 
theorem e_shown (l : List At) : (call Try.prog Γ_R9 y_shown noLoops 100 Try.f11 (mkV ish_shown l) (mkH ish_shown l)).bind (leafO 0 osh_shown) = TL_shown l := by kernel_rfl
noncomputable def F_shown : List At → Tr (List At) := TL_shown
theorem s_shown : SpecF Try.prog 11 (.eff (locF ish_shown osh_shown F_shown)) :=
  spec_loc (sy := y_shown) (fuel := 100) (Lp := noLoops) o_R9 mixed ⟨Try.func11, by kernel_rfl, by kernel_rfl⟩ ish_shown osh_shown (noLoops_ok _) (hT_ways e_shown)
noncomputable def Γ_shown : Specs := upd Γ_R9 11 (.eff (locF ish_shown osh_shown F_shown))
theorem o_shown : SpecOK Try.prog Γ_shown := SpecOK.upd o_R9 s_shown

end Go.Proofs.Ythpcjcdiaifoiaa.G
end

/-
  The document's examples hold.
-/
section
namespace Go.Proofs.Ythpcjcdiaifoiaa.G
open Go Go.AM Go.Proofs

theorem ok11 {m : Mem} {K c c' s i0 i1 i2 i3 i4 i5 i6 i7 i8 w0 w1 w2 w3 w4 w5 w6 w7 w8 v0 v1 v2 v3 v4 v5 v6 v7 v8 : Int} (h : m.Ok K) (hK : K ≤ 900000) : ((((((((((((m.stM i0 w0 v0).stM i1 w1 v1).stM i2 w2 v2).stM i3 w3 v3).stM i4 w4 v4).stM i5 w5 v5).stM i6 w6 v6).stM i7 w7 v7).stM i8 w8 v8).flM c s).feM c')).Ok (K + 11) :=
  (feM_ok (flM_ok (stM_ok (stM_ok (stM_ok (stM_ok (stM_ok (stM_ok (stM_ok (stM_ok (stM_ok h (by omega)) (by omega)) (by omega)) (by omega)) (by omega)) (by omega)) (by omega)) (by omega)) (by omega)))).mono (by omega)

noncomputable def F2_shown (_l : List At) : Tr (List At) := .ok [.b true]
theorem s2_shown : SpecF Try.prog 11 (.eff (locF ish_shown osh_shown F2_shown)) :=
  spec_loc (sy := y_shown) (fuel := 100) (Lp := noLoops) o_R9 mixed ⟨Try.func11, by kernel_rfl, by kernel_rfl⟩ ish_shown osh_shown (noLoops_ok _) (hT_of e_shown fun l r h => by
    have := val_ok h
    subst this
    have h0 : (newM 64).Ok 0 := newM_ok (by decide)
    unfold TL_shown T_shown shown_c0 shown_c1 shown_c2
    refine brF rfl (brT (pdec_yes (h0.mono (by decide))) (brT (pdec_yes (by decide)) (brT (pdec_yes ?_) (brT (pdec_yes ?_) (brT (pdec_yes ?_) (brT (pdec_yes ?_) (Tr.sat_ok.2 (AtsEq.refl _))))))))
    · exact (ok11 h0 (by decide)).mono (K := 0 + 11) (by decide)
    · exact (ok11 (ok11 h0 (by decide)) (by decide)).mono (K := 0 + 11 + 11) (by decide)
    · exact (ok11 (ok11 (ok11 h0 (by decide)) (by decide)) (by decide)).mono (K := 0 + 11 + 11 + 11) (by decide)
    · exact (ok11 (ok11 (ok11 (ok11 h0 (by decide)) (by decide)) (by decide)) (by decide)).mono (K := 0 + 11 + 11 + 11 + 11) (by decide))
noncomputable def Γ_S9 : Specs := upd Γ_R9 11 (.eff (locF ish_shown osh_shown F2_shown))
theorem o_S9 : SpecOK Try.prog Γ_S9 := SpecOK.upd o_R9 s2_shown
end Go.Proofs.Ythpcjcdiaifoiaa.G
end

/-
  What functions of the seat compute, printed by a program from the explorer.
-/
import Derived.Test.YthgagehgiooklaaG8ToO9o
import Derived.KernelRfl
import Derived.Test.YthgagehgiooklaaAn9ToAnR
section
namespace Go.Proofs.Ythgagehgiooklaa.G
open Go Go.AM Go.Proofs
theorem f_NvmOf_9 : LoopF Try.prog 1 (loopAt Try.f10 9) (loopFn 1 lsh_NvmOf_9 xs_NvmOf_9 OL_NvmOf_9) :=
  loop_sat (sy := y_NvmOf_9) (fuel := 100) (Lp := noLoops) (SpecOK.upd o_same s_of) mixed (loopsOK_at (noLoops_ok _) 9) rfl eB_NvmOf_9 rd_NvmOf_9
noncomputable def Lp_NvmOf_9 : Loops := Loops.set noLoops 9 (loopFn 1 lsh_NvmOf_9 xs_NvmOf_9 OL_NvmOf_9)
theorem lk_NvmOf_9 : LoopsFn Try.prog 1 Lp_NvmOf_9 Try.f10 := loopsFn_set (noLoops_ok _) (by kernel_rfl) f_NvmOf_9

/-! ### NvmOf -/

noncomputable def ish_NvmOf : FSh := ⟨[.v false [.vw 0 8]], [.rows [.n .u64, .n .u64, .n .u64, .n .u64, .n .u64, .n .u64, .n .u64, .n .u64] false]⟩
noncomputable def osh_NvmOf : FSh := ⟨[.v false [.k .b]], [.no]⟩
noncomputable def NvmOf_c0 (n0 : Nat) (g0 : Nat → Nat → Int) : Nat := (Go.Proofs.Ythgagehgiooklaa.G.Mem.crM { n := (Go.Proofs.Ythgagehgiooklaa.G.newM (Int.toNat (↑((0 : Nat) + n0) : Int))).n, g := Go.Proofs.Ythgagehgiooklaa.G.ofG (0 : Nat) (Int.toNat (↑((0 : Nat) + n0) : Int)) (0 : Nat) (fun (j cc : Nat) => Go.AM.appG (fun (_ _ : Nat) => (0 : Int)) (0 : Nat) (fun (j c : Nat) => g0 ((0 : Nat) + j) c) ((0 : Nat) + j) cc) (Go.Proofs.Ythgagehgiooklaa.G.newM (Int.toNat (↑((0 : Nat) + n0) : Int))).g, h := (Go.Proofs.Ythgagehgiooklaa.G.newM (Int.toNat (↑((0 : Nat) + n0) : Int))).h, off := (Go.Proofs.Ythgagehgiooklaa.G.newM (Int.toNat (↑((0 : Nat) + n0) : Int))).off, burns := (Go.Proofs.Ythgagehgiooklaa.G.newM (Int.toNat (↑((0 : Nat) + n0) : Int))).burns, left := (Go.Proofs.Ythgagehgiooklaa.G.newM (Int.toNat (↑((0 : Nat) + n0) : Int))).left, steps := (Go.Proofs.Ythgagehgiooklaa.G.newM (Int.toNat (↑((0 : Nat) + n0) : Int))).steps } (fun (_ : Nat) => (0 : Int)) (0 : Nat)).n
noncomputable def NvmOf_c1 (n0 : Nat) (g0 : Nat → Nat → Int) : Bool := Go.Proofs.Ythgagehgiooklaa.G.pdec (Go.Proofs.Ythgagehgiooklaa.G.preSm (0 : Nat) (NvmOf_c0 n0 g0) (0 : Nat) n0 (0 : Int) (fun (j cc : Nat) => Go.Proofs.Ythgagehgiooklaa.G.suG (NvmOf_c0 n0 g0) (Go.Proofs.Ythgagehgiooklaa.G.Mem.crM { n := (Go.Proofs.Ythgagehgiooklaa.G.newM (Int.toNat (↑((0 : Nat) + n0) : Int))).n, g := Go.Proofs.Ythgagehgiooklaa.G.ofG (0 : Nat) (Int.toNat (↑((0 : Nat) + n0) : Int)) (0 : Nat) (fun (j cc : Nat) => Go.AM.appG (fun (_ _ : Nat) => (0 : Int)) (0 : Nat) (fun (j c : Nat) => g0 ((0 : Nat) + j) c) ((0 : Nat) + j) cc) (Go.Proofs.Ythgagehgiooklaa.G.newM (Int.toNat (↑((0 : Nat) + n0) : Int))).g, h := (Go.Proofs.Ythgagehgiooklaa.G.newM (Int.toNat (↑((0 : Nat) + n0) : Int))).h, off := (Go.Proofs.Ythgagehgiooklaa.G.newM (Int.toNat (↑((0 : Nat) + n0) : Int))).off, burns := (Go.Proofs.Ythgagehgiooklaa.G.newM (Int.toNat (↑((0 : Nat) + n0) : Int))).burns, left := (Go.Proofs.Ythgagehgiooklaa.G.newM (Int.toNat (↑((0 : Nat) + n0) : Int))).left, steps := (Go.Proofs.Ythgagehgiooklaa.G.newM (Int.toNat (↑((0 : Nat) + n0) : Int))).steps } (fun (_ : Nat) => (0 : Int)) (0 : Nat)).g ((0 : Nat) + j) cc) fun (j cc : Nat) => g0 ((0 : Nat) + j) cc)
noncomputable def NvmOf_c3 (n0 : Nat) : Bool := Decidable.decide ((↑((0 : Nat) + n0) : Int) < (64 : Int) ∨ (↑((0 : Nat) + n0) : Int) > (1024 : Int))
noncomputable def T_NvmOf_s0 (n0 : Nat) (g0 : Nat → Nat → Int) : Tr (List At) :=
 .br 0 (Go.Proofs.Ythgagehgiooklaa.G.pdec (Go.Proofs.Ythgagehgiooklaa.G.KeepOk (fun (_ : Nat) => (0 : Int)) (0 : Nat)))
 (.br 0 (Go.Proofs.Ythgagehgiooklaa.G.pdec (Go.Proofs.Ythgagehgiooklaa.G.Mem.Ok (900000 : Int) (Go.Proofs.Ythgagehgiooklaa.G.Mem.crM { n := (Go.Proofs.Ythgagehgiooklaa.G.newM (Int.toNat (↑((0 : Nat) + n0) : Int))).n, g := Go.Proofs.Ythgagehgiooklaa.G.ofG (0 : Nat) (Int.toNat (↑((0 : Nat) + n0) : Int)) (0 : Nat) (fun (j cc : Nat) => Go.AM.appG (fun (_ _ : Nat) => (0 : Int)) (0 : Nat) (fun (j c : Nat) => g0 ((0 : Nat) + j) c) ((0 : Nat) + j) cc) (Go.Proofs.Ythgagehgiooklaa.G.newM (Int.toNat (↑((0 : Nat) + n0) : Int))).g, h := (Go.Proofs.Ythgagehgiooklaa.G.newM (Int.toNat (↑((0 : Nat) + n0) : Int))).h, off := (Go.Proofs.Ythgagehgiooklaa.G.newM (Int.toNat (↑((0 : Nat) + n0) : Int))).off, burns := (Go.Proofs.Ythgagehgiooklaa.G.newM (Int.toNat (↑((0 : Nat) + n0) : Int))).burns, left := (Go.Proofs.Ythgagehgiooklaa.G.newM (Int.toNat (↑((0 : Nat) + n0) : Int))).left, steps := (Go.Proofs.Ythgagehgiooklaa.G.newM (Int.toNat (↑((0 : Nat) + n0) : Int))).steps } (fun (_ : Nat) => (0 : Int)) (0 : Nat))))
 (.br 10 ((↑(NvmOf_c0 n0 g0) : Int) != (↑n0 : Int))
 (.br 64 (Bool.false)
 (.ok [(.b (!(Go.Proofs.Ythgagehgiooklaa.G.Mem.crM { n := (Go.Proofs.Ythgagehgiooklaa.G.newM (Int.toNat (↑((0 : Nat) + n0) : Int))).n, g := Go.Proofs.Ythgagehgiooklaa.G.ofG (0 : Nat) (Int.toNat (↑((0 : Nat) + n0) : Int)) (0 : Nat) (fun (j cc : Nat) => Go.AM.appG (fun (_ _ : Nat) => (0 : Int)) (0 : Nat) (fun (j c : Nat) => g0 ((0 : Nat) + j) c) ((0 : Nat) + j) cc) (Go.Proofs.Ythgagehgiooklaa.G.newM (Int.toNat (↑((0 : Nat) + n0) : Int))).g, h := (Go.Proofs.Ythgagehgiooklaa.G.newM (Int.toNat (↑((0 : Nat) + n0) : Int))).h, off := (Go.Proofs.Ythgagehgiooklaa.G.newM (Int.toNat (↑((0 : Nat) + n0) : Int))).off, burns := (Go.Proofs.Ythgagehgiooklaa.G.newM (Int.toNat (↑((0 : Nat) + n0) : Int))).burns, left := (Go.Proofs.Ythgagehgiooklaa.G.newM (Int.toNat (↑((0 : Nat) + n0) : Int))).left, steps := (Go.Proofs.Ythgagehgiooklaa.G.newM (Int.toNat (↑((0 : Nat) + n0) : Int))).steps } (fun (_ : Nat) => (0 : Int)) (0 : Nat)).off))])
 (.ok [(.b (Bool.false))]))
 (.br 0 ((NvmOf_c1 n0 g0))
 (.br 64 ((Go.Proofs.Ythgagehgiooklaa.G.Mem.crM { n := (Go.Proofs.Ythgagehgiooklaa.G.newM (Int.toNat (↑((0 : Nat) + n0) : Int))).n, g := Go.Proofs.Ythgagehgiooklaa.G.ofG (0 : Nat) (Int.toNat (↑((0 : Nat) + n0) : Int)) (0 : Nat) (fun (j cc : Nat) => Go.AM.appG (fun (_ _ : Nat) => (0 : Int)) (0 : Nat) (fun (j c : Nat) => g0 ((0 : Nat) + j) c) ((0 : Nat) + j) cc) (Go.Proofs.Ythgagehgiooklaa.G.newM (Int.toNat (↑((0 : Nat) + n0) : Int))).g, h := (Go.Proofs.Ythgagehgiooklaa.G.newM (Int.toNat (↑((0 : Nat) + n0) : Int))).h, off := (Go.Proofs.Ythgagehgiooklaa.G.newM (Int.toNat (↑((0 : Nat) + n0) : Int))).off, burns := (Go.Proofs.Ythgagehgiooklaa.G.newM (Int.toNat (↑((0 : Nat) + n0) : Int))).burns, left := (Go.Proofs.Ythgagehgiooklaa.G.newM (Int.toNat (↑((0 : Nat) + n0) : Int))).left, steps := (Go.Proofs.Ythgagehgiooklaa.G.newM (Int.toNat (↑((0 : Nat) + n0) : Int))).steps } (fun (_ : Nat) => (0 : Int)) (0 : Nat)).steps == (0 : Int))
 (.ok [(.b (!(Go.Proofs.Ythgagehgiooklaa.G.Mem.crM { n := (Go.Proofs.Ythgagehgiooklaa.G.newM (Int.toNat (↑((0 : Nat) + n0) : Int))).n, g := Go.Proofs.Ythgagehgiooklaa.G.ofG (0 : Nat) (Int.toNat (↑((0 : Nat) + n0) : Int)) (0 : Nat) (fun (j cc : Nat) => Go.AM.appG (fun (_ _ : Nat) => (0 : Int)) (0 : Nat) (fun (j c : Nat) => g0 ((0 : Nat) + j) c) ((0 : Nat) + j) cc) (Go.Proofs.Ythgagehgiooklaa.G.newM (Int.toNat (↑((0 : Nat) + n0) : Int))).g, h := (Go.Proofs.Ythgagehgiooklaa.G.newM (Int.toNat (↑((0 : Nat) + n0) : Int))).h, off := (Go.Proofs.Ythgagehgiooklaa.G.newM (Int.toNat (↑((0 : Nat) + n0) : Int))).off, burns := (Go.Proofs.Ythgagehgiooklaa.G.newM (Int.toNat (↑((0 : Nat) + n0) : Int))).burns, left := (Go.Proofs.Ythgagehgiooklaa.G.newM (Int.toNat (↑((0 : Nat) + n0) : Int))).left, steps := (Go.Proofs.Ythgagehgiooklaa.G.newM (Int.toNat (↑((0 : Nat) + n0) : Int))).steps } (fun (_ : Nat) => (0 : Int)) (0 : Nat)).off))])
 (.ok [(.b (Bool.false))]))
 (.no)))
 (.no))
 (.no)
noncomputable def T_NvmOf_s1 (n0 : Nat) (g0 : Nat → Nat → Int) : Tr (List At) :=
 .br 0 (Go.Proofs.Ythgagehgiooklaa.G.pdec (Go.Proofs.Ythgagehgiooklaa.G.Mem.Ok (900000 : Int) { n := (Go.Proofs.Ythgagehgiooklaa.G.newM (Int.toNat (↑((0 : Nat) + n0) : Int))).n, g := Go.Proofs.Ythgagehgiooklaa.G.ofG (0 : Nat) (Int.toNat (↑((0 : Nat) + n0) : Int)) (0 : Nat) (fun (j cc : Nat) => Go.AM.appG (fun (_ _ : Nat) => (0 : Int)) (0 : Nat) (fun (j c : Nat) => g0 ((0 : Nat) + j) c) ((0 : Nat) + j) cc) (Go.Proofs.Ythgagehgiooklaa.G.newM (Int.toNat (↑((0 : Nat) + n0) : Int))).g, h := (Go.Proofs.Ythgagehgiooklaa.G.newM (Int.toNat (↑((0 : Nat) + n0) : Int))).h, off := (Go.Proofs.Ythgagehgiooklaa.G.newM (Int.toNat (↑((0 : Nat) + n0) : Int))).off, burns := (Go.Proofs.Ythgagehgiooklaa.G.newM (Int.toNat (↑((0 : Nat) + n0) : Int))).burns, left := (Go.Proofs.Ythgagehgiooklaa.G.newM (Int.toNat (↑((0 : Nat) + n0) : Int))).left, steps := (Go.Proofs.Ythgagehgiooklaa.G.newM (Int.toNat (↑((0 : Nat) + n0) : Int))).steps }))
 (T_NvmOf_s0 n0 g0)
 (.no)
noncomputable def T_NvmOf_s2 (n0 : Nat) (g0 : Nat → Nat → Int) : Tr (List At) :=
 .br 0 (Go.Proofs.Ythgagehgiooklaa.G.pdec ((0 : Int) ≤ (0 : Int) ∧ (0 : Int) ≤ (↑((0 : Nat) + n0) : Int) ∧ (0 : Nat) + n0 ≤ (1073741824 : Nat)))
 (T_NvmOf_s1 n0 g0)
 (.no)
noncomputable def T_NvmOf (n0 : Nat) (g0 : Nat → Nat → Int) : Tr (List At) :=
 .br 11 (Decidable.decide ((0 : Nat) + n0 ≤ (2199023255552 : Nat)))
 (.br 0 ((NvmOf_c3 n0))
 (.br 32 (Decidable.decide ((↑n0 : Int) ≥ (64 : Int)))
 (.br 38 (!Bool.false == Decidable.decide ((↑n0 : Int) ≤ (1024 : Int)))
 (.ok [(.b (Bool.false))])
 (.ok [(.b (Bool.true))]))
 (.br 38 (Bool.false)
 (.ok [(.b (Bool.false))])
 (.ok [(.b (Bool.true))])))
 (.br 0 (Go.Proofs.Ythgagehgiooklaa.G.pdec ((0 : Int) ≤ (0 : Int) ∧ (0 : Int) ≤ (↑((0 : Nat) + n0) : Int) ∧ (↑((0 : Nat) + n0) : Int) ≤ (↑((0 : Nat) + n0) : Int) ∧ (↑((0 : Nat) + n0) : Int) ≤ (↑(Go.Proofs.Ythgagehgiooklaa.G.newM (Int.toNat (↑((0 : Nat) + n0) : Int))).n : Int) ∧ (Go.Proofs.Ythgagehgiooklaa.G.newM (Int.toNat (↑((0 : Nat) + n0) : Int))).n ≤ (1073741824 : Nat)))
 (.br 32 (Decidable.decide ((↑n0 : Int) ≥ (64 : Int)))
 (.br 38 (!Bool.true == Decidable.decide ((↑n0 : Int) ≤ (1024 : Int)))
 (.ok [(.b (Bool.false))])
 (T_NvmOf_s2 n0 g0))
 (.br 38 (Bool.true)
 (.ok [(.b (Bool.false))])
 (T_NvmOf_s2 n0 g0)))
 (.no)))
 (.no)
noncomputable def y_NvmOf : Nat → Option Nat := (syOf3 [11, 32, 38, 10, 64] [] [])
noncomputable def TL_NvmOf (l : List At) : Tr (List At) := T_NvmOf (aRn l 0) (aRg l 0)
theorem e_NvmOf (l : List At) : (call Try.prog (upd Γ_same 26 (.eff (locFs ish_of oshs_of F_of))) y_NvmOf Lp_NvmOf_9 100 Try.f10 (mkV ish_NvmOf l) (mkH ish_NvmOf l)).bind (leafO ish_NvmOf.hp.length ⟨[.v false [.k .b]], List.replicate ish_NvmOf.hp.length .no⟩) = TL_NvmOf l := by kernel_rfl

end Go.Proofs.Ythgagehgiooklaa.G
end

/-
  What functions of the seat compute, printed by a program from the explorer.
-/
section
namespace Go.Proofs.Ythgagehgiooklaa.G
open Go Go.AM Go.Proofs
/-! ### the loop at 9 of NvmApart -/

noncomputable def lsh_NvmApart_9 : FSh := ⟨[.v false [.sq 0 6], .v false [.k (.n .u64)], .any, .any, .any, .any, .v false [.p 2 0], .any, .v false [.k (.n .i64)], .any, .any, .any, .any, .any, .any, .any, .any, .any, .any, .any, .any, .any, .any, .any, .any, .any, .any, .any, .any, .any, .any, .any, .any, .any, .any, .any, .any, .any, .any, .any, .any, .any, .any, .any, .any, .any, .any, .any, .any, .any, .any, .any, .any, .any, .any, .any, .any, .any, .any, .any, .any, .any, .any, .any, .any, .any, .any, .any, .any, .any, .any, .any, .any, .any, .any, .any, .any, .any, .any, .any, .any, .any, .any, .any, .any, .any, .any, .any, .any, .any, .any, .any, .any, .any, .any, .any, .any, .any, .any, .any, .any, .any, .any, .any, .any], [.nrows [.n .i64, .n .i64, .n .i64, .n .i64, .n .u64, .n .i64] 5 [.n .i64] 1 false false, .no, .cells [.sw 3 25, .k .b, .k .b, .k (.n .i64), .k (.n .i64)], .nrows [.n .u64, .n .u64, .n .u64, .n .u64, .n .u64, .n .u64, .n .u64, .n .u64, .n .u64, .n .u64, .n .u64, .n .u64, .n .u64, .n .u64, .n .u64, .n .u64, .n .i64, .n .i64, .n .i64, .n .i64, .n .i64, .n .i64, .n .i64, .n .i64, .n .i64] 16 [.n .i64, .n .u64] 4 false true, .no]⟩
noncomputable def xsh_NvmApart_9_0 : FSh := ⟨[.any, .any, .any, .any, .any, .any, .any, .any, .any, .any, .any, .any, .any, .any, .any, .any, .any, .any, .any, .any, .any, .any, .any, .any, .any, .any, .any, .any, .any, .any, .any, .any, .any, .any, .any, .any, .any, .any, .any, .any, .any, .any, .any, .any, .any, .any, .any, .any, .any, .any, .any, .any, .any, .any, .any, .any, .any, .any, .any, .any, .any, .any, .any, .any, .any, .any, .any, .any, .any, .any, .any, .any, .any, .any, .any, .any, .any, .any, .any, .any, .any, .any, .any, .any, .any, .any, .any, .any, .any, .any, .any, .any, .any, .any, .any, .any, .any, .any, .any, .any, .any, .any, .any, .any, .any], [.no, .no]⟩
noncomputable def xsh_NvmApart_9_1 : FSh := ⟨[.any, .any, .any, .any, .v false [.k .b], .any, .any, .any, .any, .any, .any, .any, .any, .any, .any, .any, .any, .any, .any, .any, .any, .any, .any, .any, .any, .any, .any, .any, .any, .any, .any, .any, .any, .any, .any, .any, .any, .any, .any, .any, .any, .any, .any, .any, .any, .any, .any, .any, .any, .any, .any, .any, .any, .any, .any, .any, .any, .any, .any, .any, .any, .any, .any, .any, .any, .any, .any, .any, .any, .any, .any, .any, .any, .any, .any, .any, .any, .any, .any, .any, .any, .any, .any, .any, .any, .any, .any, .any, .any, .any, .any, .any, .any, .any, .any, .any, .any, .any, .any, .any, .any, .any, .any, .any, .any], [.no, .no]⟩
noncomputable def xs_NvmApart_9 : Exs := fun e => match e with
  | .normal => some lsh_NvmApart_9
  | .exit n => (match Nat.beq n 0 with | true => some xsh_NvmApart_9_0 | false => none)
  | .ret => some xsh_NvmApart_9_1
noncomputable def NvmApart_9_c0 (x0 : Nat) (x2 : Int) (x3 : Int) (g4 : Nat → Nat → Int) (x5 : Bool) (x6 : Bool) (x7 : Int) (x8 : Int) (n9 : Nat) (g9 : Nat → Nat → Int) (h9 : Nat → Nat → Int) : Bool := Go.Proofs.Ythgagehgiooklaa.G.Mem.ldW (Go.Proofs.Ythgagehgiooklaa.G.Mem.stM { n := n9, g := g9, h := h9, off := x5, burns := x6, left := x7, steps := x8 } (8 : Int) (Go.Proofs.Ythgagehgiooklaa.G.r_kind_0 (g4 (x0 + Int.toNat x3) (3 : Nat)) (8 : Int)) (g4 (x0 + Int.toNat x3) (4 : Nat))) (7 : Int) (3 : Nat) == x2 && (Go.Proofs.Ythgagehgiooklaa.G.Mem.ldW (Go.Proofs.Ythgagehgiooklaa.G.Mem.stM { n := n9, g := g9, h := h9, off := x5, burns := x6, left := x7, steps := x8 } (8 : Int) (Go.Proofs.Ythgagehgiooklaa.G.r_kind_0 (g4 (x0 + Int.toNat x3) (3 : Nat)) (8 : Int)) (g4 (x0 + Int.toNat x3) (4 : Nat))) (7 : Int) (4 : Nat) == (0 : Int) && (Go.Proofs.Ythgagehgiooklaa.G.Mem.ldW (Go.Proofs.Ythgagehgiooklaa.G.Mem.stM { n := n9, g := g9, h := h9, off := x5, burns := x6, left := x7, steps := x8 } (8 : Int) (Go.Proofs.Ythgagehgiooklaa.G.r_kind_0 (g4 (x0 + Int.toNat x3) (3 : Nat)) (8 : Int)) (g4 (x0 + Int.toNat x3) (4 : Nat))) (7 : Int) (5 : Nat) == (0 : Int) && (Go.Proofs.Ythgagehgiooklaa.G.Mem.ldW (Go.Proofs.Ythgagehgiooklaa.G.Mem.stM { n := n9, g := g9, h := h9, off := x5, burns := x6, left := x7, steps := x8 } (8 : Int) (Go.Proofs.Ythgagehgiooklaa.G.r_kind_0 (g4 (x0 + Int.toNat x3) (3 : Nat)) (8 : Int)) (g4 (x0 + Int.toNat x3) (4 : Nat))) (7 : Int) (6 : Nat) == (0 : Int) && (Go.Proofs.Ythgagehgiooklaa.G.Mem.ldW (Go.Proofs.Ythgagehgiooklaa.G.Mem.stM { n := n9, g := g9, h := h9, off := x5, burns := x6, left := x7, steps := x8 } (8 : Int) (Go.Proofs.Ythgagehgiooklaa.G.r_kind_0 (g4 (x0 + Int.toNat x3) (3 : Nat)) (8 : Int)) (g4 (x0 + Int.toNat x3) (4 : Nat))) (7 : Int) (7 : Nat) == (0 : Int) && Bool.true))))
noncomputable def NvmApart_9_c1 (x0 : Nat) (x2 : Int) (x3 : Int) (g4 : Nat → Nat → Int) (x5 : Bool) (x6 : Bool) (x7 : Int) (x8 : Int) (n9 : Nat) (g9 : Nat → Nat → Int) (h9 : Nat → Nat → Int) : Bool := Go.Proofs.Ythgagehgiooklaa.G.Mem.ldW (Go.Proofs.Ythgagehgiooklaa.G.Mem.stM { n := n9, g := g9, h := h9, off := x5, burns := x6, left := x7, steps := x8 } (8 : Int) (Go.Proofs.Ythgagehgiooklaa.G.r_kind_0 (g4 (x0 + Int.toNat x3) (3 : Nat)) (8 : Int)) (g4 (x0 + Int.toNat x3) (4 : Nat))) (7 : Int) (2 : Nat) == (0 : Int) && (NvmApart_9_c0 x0 x2 x3 g4 x5 x6 x7 x8 n9 g9 h9)
noncomputable def NvmApart_9_c2 (x0 : Nat) (x2 : Int) (x3 : Int) (g4 : Nat → Nat → Int) (x5 : Bool) (x6 : Bool) (x7 : Int) (x8 : Int) (n9 : Nat) (g9 : Nat → Nat → Int) (h9 : Nat → Nat → Int) : Bool := Go.Proofs.Ythgagehgiooklaa.G.Mem.ldW (Go.Proofs.Ythgagehgiooklaa.G.Mem.stM { n := n9, g := g9, h := h9, off := x5, burns := x6, left := x7, steps := x8 } (8 : Int) (Go.Proofs.Ythgagehgiooklaa.G.r_kind_0 (g4 (x0 + Int.toNat x3) (3 : Nat)) (8 : Int)) (g4 (x0 + Int.toNat x3) (4 : Nat))) (7 : Int) (1 : Nat) == (0 : Int) && (NvmApart_9_c1 x0 x2 x3 g4 x5 x6 x7 x8 n9 g9 h9)
noncomputable def NvmApart_9_c3 (x0 : Nat) (x2 : Int) (x3 : Int) (g4 : Nat → Nat → Int) (x5 : Bool) (x6 : Bool) (x7 : Int) (x8 : Int) (n9 : Nat) (g9 : Nat → Nat → Int) (h9 : Nat → Nat → Int) : Bool := Go.Proofs.Ythgagehgiooklaa.G.Mem.ldW (Go.Proofs.Ythgagehgiooklaa.G.Mem.stM { n := n9, g := g9, h := h9, off := x5, burns := x6, left := x7, steps := x8 } (8 : Int) (Go.Proofs.Ythgagehgiooklaa.G.r_kind_0 (g4 (x0 + Int.toNat x3) (3 : Nat)) (8 : Int)) (g4 (x0 + Int.toNat x3) (4 : Nat))) (7 : Int) (0 : Nat) == (0 : Int) && (NvmApart_9_c2 x0 x2 x3 g4 x5 x6 x7 x8 n9 g9 h9)
noncomputable def NvmApart_9_c4 (x0 : Nat) (x2 : Int) (x3 : Int) (g4 : Nat → Nat → Int) (x5 : Bool) (x6 : Bool) (x7 : Int) (x8 : Int) (n9 : Nat) (g9 : Nat → Nat → Int) (h9 : Nat → Nat → Int) : Bool := !(NvmApart_9_c3 x0 x2 x3 g4 x5 x6 x7 x8 n9 g9 h9)
noncomputable def NvmApart_9_c5 (x0 : Nat) (x2 : Int) (x3 : Int) (g4 : Nat → Nat → Int) (x5 : Bool) (x6 : Bool) (x7 : Int) (x8 : Int) (n9 : Nat) (g9 : Nat → Nat → Int) (h9 : Nat → Nat → Int) : Bool := Go.Proofs.Ythgagehgiooklaa.G.Mem.ldW (Go.Proofs.Ythgagehgiooklaa.G.Mem.flM { n := n9, g := g9, h := h9, off := x5, burns := x6, left := x7, steps := x8 } (Go.Proofs.Ythgagehgiooklaa.G.r_kind_0 (g4 (x0 + Int.toNat x3) (1 : Nat)) (8 : Int)) (8 : Int)) (7 : Int) (2 : Nat) == (0 : Int) && (Go.Proofs.Ythgagehgiooklaa.G.Mem.ldW (Go.Proofs.Ythgagehgiooklaa.G.Mem.flM { n := n9, g := g9, h := h9, off := x5, burns := x6, left := x7, steps := x8 } (Go.Proofs.Ythgagehgiooklaa.G.r_kind_0 (g4 (x0 + Int.toNat x3) (1 : Nat)) (8 : Int)) (8 : Int)) (7 : Int) (3 : Nat) == x2 && (Go.Proofs.Ythgagehgiooklaa.G.Mem.ldW (Go.Proofs.Ythgagehgiooklaa.G.Mem.flM { n := n9, g := g9, h := h9, off := x5, burns := x6, left := x7, steps := x8 } (Go.Proofs.Ythgagehgiooklaa.G.r_kind_0 (g4 (x0 + Int.toNat x3) (1 : Nat)) (8 : Int)) (8 : Int)) (7 : Int) (4 : Nat) == (0 : Int) && (Go.Proofs.Ythgagehgiooklaa.G.Mem.ldW (Go.Proofs.Ythgagehgiooklaa.G.Mem.flM { n := n9, g := g9, h := h9, off := x5, burns := x6, left := x7, steps := x8 } (Go.Proofs.Ythgagehgiooklaa.G.r_kind_0 (g4 (x0 + Int.toNat x3) (1 : Nat)) (8 : Int)) (8 : Int)) (7 : Int) (5 : Nat) == (0 : Int) && (Go.Proofs.Ythgagehgiooklaa.G.Mem.ldW (Go.Proofs.Ythgagehgiooklaa.G.Mem.flM { n := n9, g := g9, h := h9, off := x5, burns := x6, left := x7, steps := x8 } (Go.Proofs.Ythgagehgiooklaa.G.r_kind_0 (g4 (x0 + Int.toNat x3) (1 : Nat)) (8 : Int)) (8 : Int)) (7 : Int) (6 : Nat) == (0 : Int) && (Go.Proofs.Ythgagehgiooklaa.G.Mem.ldW (Go.Proofs.Ythgagehgiooklaa.G.Mem.flM { n := n9, g := g9, h := h9, off := x5, burns := x6, left := x7, steps := x8 } (Go.Proofs.Ythgagehgiooklaa.G.r_kind_0 (g4 (x0 + Int.toNat x3) (1 : Nat)) (8 : Int)) (8 : Int)) (7 : Int) (7 : Nat) == (0 : Int) && Bool.true)))))
noncomputable def NvmApart_9_c6 (x0 : Nat) (x2 : Int) (x3 : Int) (g4 : Nat → Nat → Int) (x5 : Bool) (x6 : Bool) (x7 : Int) (x8 : Int) (n9 : Nat) (g9 : Nat → Nat → Int) (h9 : Nat → Nat → Int) : Bool := Go.Proofs.Ythgagehgiooklaa.G.Mem.ldW (Go.Proofs.Ythgagehgiooklaa.G.Mem.flM { n := n9, g := g9, h := h9, off := x5, burns := x6, left := x7, steps := x8 } (Go.Proofs.Ythgagehgiooklaa.G.r_kind_0 (g4 (x0 + Int.toNat x3) (1 : Nat)) (8 : Int)) (8 : Int)) (7 : Int) (1 : Nat) == (0 : Int) && (NvmApart_9_c5 x0 x2 x3 g4 x5 x6 x7 x8 n9 g9 h9)
noncomputable def NvmApart_9_c7 (x0 : Nat) (x2 : Int) (x3 : Int) (g4 : Nat → Nat → Int) (x5 : Bool) (x6 : Bool) (x7 : Int) (x8 : Int) (n9 : Nat) (g9 : Nat → Nat → Int) (h9 : Nat → Nat → Int) : Bool := Go.Proofs.Ythgagehgiooklaa.G.Mem.ldW (Go.Proofs.Ythgagehgiooklaa.G.Mem.flM { n := n9, g := g9, h := h9, off := x5, burns := x6, left := x7, steps := x8 } (Go.Proofs.Ythgagehgiooklaa.G.r_kind_0 (g4 (x0 + Int.toNat x3) (1 : Nat)) (8 : Int)) (8 : Int)) (7 : Int) (0 : Nat) == (0 : Int) && (NvmApart_9_c6 x0 x2 x3 g4 x5 x6 x7 x8 n9 g9 h9)
noncomputable def NvmApart_9_c8 (x0 : Nat) (x2 : Int) (x3 : Int) (g4 : Nat → Nat → Int) (x5 : Bool) (x6 : Bool) (x7 : Int) (x8 : Int) (n9 : Nat) (g9 : Nat → Nat → Int) (h9 : Nat → Nat → Int) : Bool := !(NvmApart_9_c7 x0 x2 x3 g4 x5 x6 x7 x8 n9 g9 h9)
noncomputable def NvmApart_9_c9 (x0 : Nat) (x2 : Int) (x3 : Int) (g4 : Nat → Nat → Int) (x5 : Bool) (x6 : Bool) (x7 : Int) (x8 : Int) (n9 : Nat) (g9 : Nat → Nat → Int) (h9 : Nat → Nat → Int) : Bool := Go.Proofs.Ythgagehgiooklaa.G.Mem.ldW (Go.Proofs.Ythgagehgiooklaa.G.Mem.feM { n := n9, g := g9, h := h9, off := x5, burns := x6, left := x7, steps := x8 } (Go.Proofs.Ythgagehgiooklaa.G.r_kind_0 (g4 (x0 + Int.toNat x3) (1 : Nat)) (8 : Int))) (7 : Int) (2 : Nat) == (0 : Int) && (Go.Proofs.Ythgagehgiooklaa.G.Mem.ldW (Go.Proofs.Ythgagehgiooklaa.G.Mem.feM { n := n9, g := g9, h := h9, off := x5, burns := x6, left := x7, steps := x8 } (Go.Proofs.Ythgagehgiooklaa.G.r_kind_0 (g4 (x0 + Int.toNat x3) (1 : Nat)) (8 : Int))) (7 : Int) (3 : Nat) == x2 && (Go.Proofs.Ythgagehgiooklaa.G.Mem.ldW (Go.Proofs.Ythgagehgiooklaa.G.Mem.feM { n := n9, g := g9, h := h9, off := x5, burns := x6, left := x7, steps := x8 } (Go.Proofs.Ythgagehgiooklaa.G.r_kind_0 (g4 (x0 + Int.toNat x3) (1 : Nat)) (8 : Int))) (7 : Int) (4 : Nat) == (0 : Int) && (Go.Proofs.Ythgagehgiooklaa.G.Mem.ldW (Go.Proofs.Ythgagehgiooklaa.G.Mem.feM { n := n9, g := g9, h := h9, off := x5, burns := x6, left := x7, steps := x8 } (Go.Proofs.Ythgagehgiooklaa.G.r_kind_0 (g4 (x0 + Int.toNat x3) (1 : Nat)) (8 : Int))) (7 : Int) (5 : Nat) == (0 : Int) && (Go.Proofs.Ythgagehgiooklaa.G.Mem.ldW (Go.Proofs.Ythgagehgiooklaa.G.Mem.feM { n := n9, g := g9, h := h9, off := x5, burns := x6, left := x7, steps := x8 } (Go.Proofs.Ythgagehgiooklaa.G.r_kind_0 (g4 (x0 + Int.toNat x3) (1 : Nat)) (8 : Int))) (7 : Int) (6 : Nat) == (0 : Int) && (Go.Proofs.Ythgagehgiooklaa.G.Mem.ldW (Go.Proofs.Ythgagehgiooklaa.G.Mem.feM { n := n9, g := g9, h := h9, off := x5, burns := x6, left := x7, steps := x8 } (Go.Proofs.Ythgagehgiooklaa.G.r_kind_0 (g4 (x0 + Int.toNat x3) (1 : Nat)) (8 : Int))) (7 : Int) (7 : Nat) == (0 : Int) && Bool.true)))))
noncomputable def NvmApart_9_c10 (x0 : Nat) (x2 : Int) (x3 : Int) (g4 : Nat → Nat → Int) (x5 : Bool) (x6 : Bool) (x7 : Int) (x8 : Int) (n9 : Nat) (g9 : Nat → Nat → Int) (h9 : Nat → Nat → Int) : Bool := Go.Proofs.Ythgagehgiooklaa.G.Mem.ldW (Go.Proofs.Ythgagehgiooklaa.G.Mem.feM { n := n9, g := g9, h := h9, off := x5, burns := x6, left := x7, steps := x8 } (Go.Proofs.Ythgagehgiooklaa.G.r_kind_0 (g4 (x0 + Int.toNat x3) (1 : Nat)) (8 : Int))) (7 : Int) (1 : Nat) == (0 : Int) && (NvmApart_9_c9 x0 x2 x3 g4 x5 x6 x7 x8 n9 g9 h9)
noncomputable def NvmApart_9_c11 (x0 : Nat) (x2 : Int) (x3 : Int) (g4 : Nat → Nat → Int) (x5 : Bool) (x6 : Bool) (x7 : Int) (x8 : Int) (n9 : Nat) (g9 : Nat → Nat → Int) (h9 : Nat → Nat → Int) : Bool := Go.Proofs.Ythgagehgiooklaa.G.Mem.ldW (Go.Proofs.Ythgagehgiooklaa.G.Mem.feM { n := n9, g := g9, h := h9, off := x5, burns := x6, left := x7, steps := x8 } (Go.Proofs.Ythgagehgiooklaa.G.r_kind_0 (g4 (x0 + Int.toNat x3) (1 : Nat)) (8 : Int))) (7 : Int) (0 : Nat) == (0 : Int) && (NvmApart_9_c10 x0 x2 x3 g4 x5 x6 x7 x8 n9 g9 h9)
noncomputable def NvmApart_9_c12 (x0 : Nat) (x2 : Int) (x3 : Int) (g4 : Nat → Nat → Int) (x5 : Bool) (x6 : Bool) (x7 : Int) (x8 : Int) (n9 : Nat) (g9 : Nat → Nat → Int) (h9 : Nat → Nat → Int) : Bool := !(NvmApart_9_c11 x0 x2 x3 g4 x5 x6 x7 x8 n9 g9 h9)
noncomputable def NvmApart_9_c13 (x0 : Nat) (x2 : Int) (x3 : Int) (g4 : Nat → Nat → Int) (x5 : Bool) (x6 : Bool) (x7 : Int) (x8 : Int) (n9 : Nat) (g9 : Nat → Nat → Int) (h9 : Nat → Nat → Int) : Bool := Go.Proofs.Ythgagehgiooklaa.G.Mem.ldW (Go.Proofs.Ythgagehgiooklaa.G.Mem.evM { n := n9, g := g9, h := h9, off := x5, burns := x6, left := x7, steps := x8 } (8 : Int) (Go.Proofs.Ythgagehgiooklaa.G.r_kind_0 (g4 (x0 + Int.toNat x3) (3 : Nat)) (9 : Int))) (7 : Int) (2 : Nat) == (0 : Int) && (Go.Proofs.Ythgagehgiooklaa.G.Mem.ldW (Go.Proofs.Ythgagehgiooklaa.G.Mem.evM { n := n9, g := g9, h := h9, off := x5, burns := x6, left := x7, steps := x8 } (8 : Int) (Go.Proofs.Ythgagehgiooklaa.G.r_kind_0 (g4 (x0 + Int.toNat x3) (3 : Nat)) (9 : Int))) (7 : Int) (3 : Nat) == x2 && (Go.Proofs.Ythgagehgiooklaa.G.Mem.ldW (Go.Proofs.Ythgagehgiooklaa.G.Mem.evM { n := n9, g := g9, h := h9, off := x5, burns := x6, left := x7, steps := x8 } (8 : Int) (Go.Proofs.Ythgagehgiooklaa.G.r_kind_0 (g4 (x0 + Int.toNat x3) (3 : Nat)) (9 : Int))) (7 : Int) (4 : Nat) == (0 : Int) && (Go.Proofs.Ythgagehgiooklaa.G.Mem.ldW (Go.Proofs.Ythgagehgiooklaa.G.Mem.evM { n := n9, g := g9, h := h9, off := x5, burns := x6, left := x7, steps := x8 } (8 : Int) (Go.Proofs.Ythgagehgiooklaa.G.r_kind_0 (g4 (x0 + Int.toNat x3) (3 : Nat)) (9 : Int))) (7 : Int) (5 : Nat) == (0 : Int) && (Go.Proofs.Ythgagehgiooklaa.G.Mem.ldW (Go.Proofs.Ythgagehgiooklaa.G.Mem.evM { n := n9, g := g9, h := h9, off := x5, burns := x6, left := x7, steps := x8 } (8 : Int) (Go.Proofs.Ythgagehgiooklaa.G.r_kind_0 (g4 (x0 + Int.toNat x3) (3 : Nat)) (9 : Int))) (7 : Int) (6 : Nat) == (0 : Int) && (Go.Proofs.Ythgagehgiooklaa.G.Mem.ldW (Go.Proofs.Ythgagehgiooklaa.G.Mem.evM { n := n9, g := g9, h := h9, off := x5, burns := x6, left := x7, steps := x8 } (8 : Int) (Go.Proofs.Ythgagehgiooklaa.G.r_kind_0 (g4 (x0 + Int.toNat x3) (3 : Nat)) (9 : Int))) (7 : Int) (7 : Nat) == (0 : Int) && Bool.true)))))
noncomputable def NvmApart_9_c14 (x0 : Nat) (x2 : Int) (x3 : Int) (g4 : Nat → Nat → Int) (x5 : Bool) (x6 : Bool) (x7 : Int) (x8 : Int) (n9 : Nat) (g9 : Nat → Nat → Int) (h9 : Nat → Nat → Int) : Bool := Go.Proofs.Ythgagehgiooklaa.G.Mem.ldW (Go.Proofs.Ythgagehgiooklaa.G.Mem.evM { n := n9, g := g9, h := h9, off := x5, burns := x6, left := x7, steps := x8 } (8 : Int) (Go.Proofs.Ythgagehgiooklaa.G.r_kind_0 (g4 (x0 + Int.toNat x3) (3 : Nat)) (9 : Int))) (7 : Int) (1 : Nat) == (0 : Int) && (NvmApart_9_c13 x0 x2 x3 g4 x5 x6 x7 x8 n9 g9 h9)
noncomputable def NvmApart_9_c15 (x0 : Nat) (x2 : Int) (x3 : Int) (g4 : Nat → Nat → Int) (x5 : Bool) (x6 : Bool) (x7 : Int) (x8 : Int) (n9 : Nat) (g9 : Nat → Nat → Int) (h9 : Nat → Nat → Int) : Bool := Go.Proofs.Ythgagehgiooklaa.G.Mem.ldW (Go.Proofs.Ythgagehgiooklaa.G.Mem.evM { n := n9, g := g9, h := h9, off := x5, burns := x6, left := x7, steps := x8 } (8 : Int) (Go.Proofs.Ythgagehgiooklaa.G.r_kind_0 (g4 (x0 + Int.toNat x3) (3 : Nat)) (9 : Int))) (7 : Int) (0 : Nat) == (0 : Int) && (NvmApart_9_c14 x0 x2 x3 g4 x5 x6 x7 x8 n9 g9 h9)
noncomputable def NvmApart_9_c16 (x0 : Nat) (x2 : Int) (x3 : Int) (g4 : Nat → Nat → Int) (x5 : Bool) (x6 : Bool) (x7 : Int) (x8 : Int) (n9 : Nat) (g9 : Nat → Nat → Int) (h9 : Nat → Nat → Int) : Bool := !(NvmApart_9_c15 x0 x2 x3 g4 x5 x6 x7 x8 n9 g9 h9)
noncomputable def NvmApart_9_c17 (x0 : Nat) (x3 : Int) (g4 : Nat → Nat → Int) (h4 : Nat → Nat → Int) (x5 : Bool) (x6 : Bool) (x7 : Int) (x8 : Int) (n9 : Nat) (g9 : Nat → Nat → Int) (h9 : Nat → Nat → Int) : Bool := Go.Proofs.Ythgagehgiooklaa.G.Mem.ldW (Go.Proofs.Ythgagehgiooklaa.G.Mem.crM { n := n9, g := g9, h := h9, off := x5, burns := x6, left := x7, steps := x8 } (fun (j : Nat) => h4 (x0 + Int.toNat x3) (((0 : Nat) + j) * (1 : Nat) + (0 : Nat))) (Int.toNat (g4 (x0 + Int.toNat x3) (5 : Nat)))) (7 : Int) (4 : Nat) == (0 : Int) && (Go.Proofs.Ythgagehgiooklaa.G.Mem.ldW (Go.Proofs.Ythgagehgiooklaa.G.Mem.crM { n := n9, g := g9, h := h9, off := x5, burns := x6, left := x7, steps := x8 } (fun (j : Nat) => h4 (x0 + Int.toNat x3) (((0 : Nat) + j) * (1 : Nat) + (0 : Nat))) (Int.toNat (g4 (x0 + Int.toNat x3) (5 : Nat)))) (7 : Int) (5 : Nat) == (0 : Int) && (Go.Proofs.Ythgagehgiooklaa.G.Mem.ldW (Go.Proofs.Ythgagehgiooklaa.G.Mem.crM { n := n9, g := g9, h := h9, off := x5, burns := x6, left := x7, steps := x8 } (fun (j : Nat) => h4 (x0 + Int.toNat x3) (((0 : Nat) + j) * (1 : Nat) + (0 : Nat))) (Int.toNat (g4 (x0 + Int.toNat x3) (5 : Nat)))) (7 : Int) (6 : Nat) == (0 : Int) && (Go.Proofs.Ythgagehgiooklaa.G.Mem.ldW (Go.Proofs.Ythgagehgiooklaa.G.Mem.crM { n := n9, g := g9, h := h9, off := x5, burns := x6, left := x7, steps := x8 } (fun (j : Nat) => h4 (x0 + Int.toNat x3) (((0 : Nat) + j) * (1 : Nat) + (0 : Nat))) (Int.toNat (g4 (x0 + Int.toNat x3) (5 : Nat)))) (7 : Int) (7 : Nat) == (0 : Int) && Bool.true)))
noncomputable def NvmApart_9_c18 (x0 : Nat) (x2 : Int) (x3 : Int) (g4 : Nat → Nat → Int) (h4 : Nat → Nat → Int) (x5 : Bool) (x6 : Bool) (x7 : Int) (x8 : Int) (n9 : Nat) (g9 : Nat → Nat → Int) (h9 : Nat → Nat → Int) : Bool := Go.Proofs.Ythgagehgiooklaa.G.Mem.ldW (Go.Proofs.Ythgagehgiooklaa.G.Mem.crM { n := n9, g := g9, h := h9, off := x5, burns := x6, left := x7, steps := x8 } (fun (j : Nat) => h4 (x0 + Int.toNat x3) (((0 : Nat) + j) * (1 : Nat) + (0 : Nat))) (Int.toNat (g4 (x0 + Int.toNat x3) (5 : Nat)))) (7 : Int) (3 : Nat) == x2 && (NvmApart_9_c17 x0 x3 g4 h4 x5 x6 x7 x8 n9 g9 h9)
noncomputable def NvmApart_9_c19 (x0 : Nat) (x2 : Int) (x3 : Int) (g4 : Nat → Nat → Int) (h4 : Nat → Nat → Int) (x5 : Bool) (x6 : Bool) (x7 : Int) (x8 : Int) (n9 : Nat) (g9 : Nat → Nat → Int) (h9 : Nat → Nat → Int) : Bool := Go.Proofs.Ythgagehgiooklaa.G.Mem.ldW (Go.Proofs.Ythgagehgiooklaa.G.Mem.crM { n := n9, g := g9, h := h9, off := x5, burns := x6, left := x7, steps := x8 } (fun (j : Nat) => h4 (x0 + Int.toNat x3) (((0 : Nat) + j) * (1 : Nat) + (0 : Nat))) (Int.toNat (g4 (x0 + Int.toNat x3) (5 : Nat)))) (7 : Int) (2 : Nat) == (0 : Int) && (NvmApart_9_c18 x0 x2 x3 g4 h4 x5 x6 x7 x8 n9 g9 h9)
noncomputable def NvmApart_9_c20 (x0 : Nat) (x2 : Int) (x3 : Int) (g4 : Nat → Nat → Int) (h4 : Nat → Nat → Int) (x5 : Bool) (x6 : Bool) (x7 : Int) (x8 : Int) (n9 : Nat) (g9 : Nat → Nat → Int) (h9 : Nat → Nat → Int) : Bool := Go.Proofs.Ythgagehgiooklaa.G.Mem.ldW (Go.Proofs.Ythgagehgiooklaa.G.Mem.crM { n := n9, g := g9, h := h9, off := x5, burns := x6, left := x7, steps := x8 } (fun (j : Nat) => h4 (x0 + Int.toNat x3) (((0 : Nat) + j) * (1 : Nat) + (0 : Nat))) (Int.toNat (g4 (x0 + Int.toNat x3) (5 : Nat)))) (7 : Int) (1 : Nat) == (0 : Int) && (NvmApart_9_c19 x0 x2 x3 g4 h4 x5 x6 x7 x8 n9 g9 h9)
noncomputable def NvmApart_9_c21 (x0 : Nat) (x2 : Int) (x3 : Int) (g4 : Nat → Nat → Int) (h4 : Nat → Nat → Int) (x5 : Bool) (x6 : Bool) (x7 : Int) (x8 : Int) (n9 : Nat) (g9 : Nat → Nat → Int) (h9 : Nat → Nat → Int) : Bool := Go.Proofs.Ythgagehgiooklaa.G.Mem.ldW (Go.Proofs.Ythgagehgiooklaa.G.Mem.crM { n := n9, g := g9, h := h9, off := x5, burns := x6, left := x7, steps := x8 } (fun (j : Nat) => h4 (x0 + Int.toNat x3) (((0 : Nat) + j) * (1 : Nat) + (0 : Nat))) (Int.toNat (g4 (x0 + Int.toNat x3) (5 : Nat)))) (7 : Int) (0 : Nat) == (0 : Int) && (NvmApart_9_c20 x0 x2 x3 g4 h4 x5 x6 x7 x8 n9 g9 h9)
noncomputable def NvmApart_9_c22 (x0 : Nat) (x2 : Int) (x3 : Int) (g4 : Nat → Nat → Int) (h4 : Nat → Nat → Int) (x5 : Bool) (x6 : Bool) (x7 : Int) (x8 : Int) (n9 : Nat) (g9 : Nat → Nat → Int) (h9 : Nat → Nat → Int) : Bool := !(NvmApart_9_c21 x0 x2 x3 g4 h4 x5 x6 x7 x8 n9 g9 h9)
noncomputable def NvmApart_9_c23 (x0 : Nat) (x3 : Int) (g4 : Nat → Nat → Int) (x5 : Bool) (x6 : Bool) (x7 : Int) (x8 : Int) (n9 : Nat) (g9 : Nat → Nat → Int) (h9 : Nat → Nat → Int) : Bool := Go.Proofs.Ythgagehgiooklaa.G.Mem.ldW (Go.Proofs.Ythgagehgiooklaa.G.Mem.stM { n := n9, g := g9, h := h9, off := x5, burns := x6, left := x7, steps := x8 } (Go.Proofs.Ythgagehgiooklaa.G.r_kind_0 (g4 (x0 + Int.toNat x3) (2 : Nat)) (64 : Int)) (Go.Proofs.Ythgagehgiooklaa.G.r_kind_0 (g4 (x0 + Int.toNat x3) (3 : Nat)) (8 : Int)) (g4 (x0 + Int.toNat x3) (4 : Nat))) (7 : Int) (4 : Nat) == (0 : Int) && (Go.Proofs.Ythgagehgiooklaa.G.Mem.ldW (Go.Proofs.Ythgagehgiooklaa.G.Mem.stM { n := n9, g := g9, h := h9, off := x5, burns := x6, left := x7, steps := x8 } (Go.Proofs.Ythgagehgiooklaa.G.r_kind_0 (g4 (x0 + Int.toNat x3) (2 : Nat)) (64 : Int)) (Go.Proofs.Ythgagehgiooklaa.G.r_kind_0 (g4 (x0 + Int.toNat x3) (3 : Nat)) (8 : Int)) (g4 (x0 + Int.toNat x3) (4 : Nat))) (7 : Int) (5 : Nat) == (0 : Int) && (Go.Proofs.Ythgagehgiooklaa.G.Mem.ldW (Go.Proofs.Ythgagehgiooklaa.G.Mem.stM { n := n9, g := g9, h := h9, off := x5, burns := x6, left := x7, steps := x8 } (Go.Proofs.Ythgagehgiooklaa.G.r_kind_0 (g4 (x0 + Int.toNat x3) (2 : Nat)) (64 : Int)) (Go.Proofs.Ythgagehgiooklaa.G.r_kind_0 (g4 (x0 + Int.toNat x3) (3 : Nat)) (8 : Int)) (g4 (x0 + Int.toNat x3) (4 : Nat))) (7 : Int) (6 : Nat) == (0 : Int) && (Go.Proofs.Ythgagehgiooklaa.G.Mem.ldW (Go.Proofs.Ythgagehgiooklaa.G.Mem.stM { n := n9, g := g9, h := h9, off := x5, burns := x6, left := x7, steps := x8 } (Go.Proofs.Ythgagehgiooklaa.G.r_kind_0 (g4 (x0 + Int.toNat x3) (2 : Nat)) (64 : Int)) (Go.Proofs.Ythgagehgiooklaa.G.r_kind_0 (g4 (x0 + Int.toNat x3) (3 : Nat)) (8 : Int)) (g4 (x0 + Int.toNat x3) (4 : Nat))) (7 : Int) (7 : Nat) == (0 : Int) && Bool.true)))
noncomputable def NvmApart_9_c24 (x0 : Nat) (x2 : Int) (x3 : Int) (g4 : Nat → Nat → Int) (x5 : Bool) (x6 : Bool) (x7 : Int) (x8 : Int) (n9 : Nat) (g9 : Nat → Nat → Int) (h9 : Nat → Nat → Int) : Bool := Go.Proofs.Ythgagehgiooklaa.G.Mem.ldW (Go.Proofs.Ythgagehgiooklaa.G.Mem.stM { n := n9, g := g9, h := h9, off := x5, burns := x6, left := x7, steps := x8 } (Go.Proofs.Ythgagehgiooklaa.G.r_kind_0 (g4 (x0 + Int.toNat x3) (2 : Nat)) (64 : Int)) (Go.Proofs.Ythgagehgiooklaa.G.r_kind_0 (g4 (x0 + Int.toNat x3) (3 : Nat)) (8 : Int)) (g4 (x0 + Int.toNat x3) (4 : Nat))) (7 : Int) (3 : Nat) == x2 && (NvmApart_9_c23 x0 x3 g4 x5 x6 x7 x8 n9 g9 h9)
noncomputable def NvmApart_9_c25 (x0 : Nat) (x2 : Int) (x3 : Int) (g4 : Nat → Nat → Int) (x5 : Bool) (x6 : Bool) (x7 : Int) (x8 : Int) (n9 : Nat) (g9 : Nat → Nat → Int) (h9 : Nat → Nat → Int) : Bool := Go.Proofs.Ythgagehgiooklaa.G.Mem.ldW (Go.Proofs.Ythgagehgiooklaa.G.Mem.stM { n := n9, g := g9, h := h9, off := x5, burns := x6, left := x7, steps := x8 } (Go.Proofs.Ythgagehgiooklaa.G.r_kind_0 (g4 (x0 + Int.toNat x3) (2 : Nat)) (64 : Int)) (Go.Proofs.Ythgagehgiooklaa.G.r_kind_0 (g4 (x0 + Int.toNat x3) (3 : Nat)) (8 : Int)) (g4 (x0 + Int.toNat x3) (4 : Nat))) (7 : Int) (2 : Nat) == (0 : Int) && (NvmApart_9_c24 x0 x2 x3 g4 x5 x6 x7 x8 n9 g9 h9)
noncomputable def NvmApart_9_c26 (x0 : Nat) (x2 : Int) (x3 : Int) (g4 : Nat → Nat → Int) (x5 : Bool) (x6 : Bool) (x7 : Int) (x8 : Int) (n9 : Nat) (g9 : Nat → Nat → Int) (h9 : Nat → Nat → Int) : Bool := Go.Proofs.Ythgagehgiooklaa.G.Mem.ldW (Go.Proofs.Ythgagehgiooklaa.G.Mem.stM { n := n9, g := g9, h := h9, off := x5, burns := x6, left := x7, steps := x8 } (Go.Proofs.Ythgagehgiooklaa.G.r_kind_0 (g4 (x0 + Int.toNat x3) (2 : Nat)) (64 : Int)) (Go.Proofs.Ythgagehgiooklaa.G.r_kind_0 (g4 (x0 + Int.toNat x3) (3 : Nat)) (8 : Int)) (g4 (x0 + Int.toNat x3) (4 : Nat))) (7 : Int) (1 : Nat) == (0 : Int) && (NvmApart_9_c25 x0 x2 x3 g4 x5 x6 x7 x8 n9 g9 h9)
noncomputable def NvmApart_9_c27 (x0 : Nat) (x2 : Int) (x3 : Int) (g4 : Nat → Nat → Int) (x5 : Bool) (x6 : Bool) (x7 : Int) (x8 : Int) (n9 : Nat) (g9 : Nat → Nat → Int) (h9 : Nat → Nat → Int) : Bool := Go.Proofs.Ythgagehgiooklaa.G.Mem.ldW (Go.Proofs.Ythgagehgiooklaa.G.Mem.stM { n := n9, g := g9, h := h9, off := x5, burns := x6, left := x7, steps := x8 } (Go.Proofs.Ythgagehgiooklaa.G.r_kind_0 (g4 (x0 + Int.toNat x3) (2 : Nat)) (64 : Int)) (Go.Proofs.Ythgagehgiooklaa.G.r_kind_0 (g4 (x0 + Int.toNat x3) (3 : Nat)) (8 : Int)) (g4 (x0 + Int.toNat x3) (4 : Nat))) (7 : Int) (0 : Nat) == (0 : Int) && (NvmApart_9_c26 x0 x2 x3 g4 x5 x6 x7 x8 n9 g9 h9)
noncomputable def NvmApart_9_c28 (x0 : Nat) (x2 : Int) (x3 : Int) (g4 : Nat → Nat → Int) (x5 : Bool) (x6 : Bool) (x7 : Int) (x8 : Int) (n9 : Nat) (g9 : Nat → Nat → Int) (h9 : Nat → Nat → Int) : Bool := !(NvmApart_9_c27 x0 x2 x3 g4 x5 x6 x7 x8 n9 g9 h9)
noncomputable def NvmApart_9_c29 (x0 : Nat) (x3 : Int) (g4 : Nat → Nat → Int) (x5 : Bool) (x6 : Bool) (x7 : Int) (x8 : Int) (n9 : Nat) (g9 : Nat → Nat → Int) (h9 : Nat → Nat → Int) : Bool := Go.Proofs.Ythgagehgiooklaa.G.Mem.ldW (Go.Proofs.Ythgagehgiooklaa.G.Mem.flM { n := n9, g := g9, h := h9, off := x5, burns := x6, left := x7, steps := x8 } (Go.Proofs.Ythgagehgiooklaa.G.r_kind_0 (g4 (x0 + Int.toNat x3) (1 : Nat)) (8 : Int)) (Go.Proofs.Ythgagehgiooklaa.G.r_kind_0 (g4 (x0 + Int.toNat x3) (2 : Nat)) (64 : Int))) (7 : Int) (4 : Nat) == (0 : Int) && (Go.Proofs.Ythgagehgiooklaa.G.Mem.ldW (Go.Proofs.Ythgagehgiooklaa.G.Mem.flM { n := n9, g := g9, h := h9, off := x5, burns := x6, left := x7, steps := x8 } (Go.Proofs.Ythgagehgiooklaa.G.r_kind_0 (g4 (x0 + Int.toNat x3) (1 : Nat)) (8 : Int)) (Go.Proofs.Ythgagehgiooklaa.G.r_kind_0 (g4 (x0 + Int.toNat x3) (2 : Nat)) (64 : Int))) (7 : Int) (5 : Nat) == (0 : Int) && (Go.Proofs.Ythgagehgiooklaa.G.Mem.ldW (Go.Proofs.Ythgagehgiooklaa.G.Mem.flM { n := n9, g := g9, h := h9, off := x5, burns := x6, left := x7, steps := x8 } (Go.Proofs.Ythgagehgiooklaa.G.r_kind_0 (g4 (x0 + Int.toNat x3) (1 : Nat)) (8 : Int)) (Go.Proofs.Ythgagehgiooklaa.G.r_kind_0 (g4 (x0 + Int.toNat x3) (2 : Nat)) (64 : Int))) (7 : Int) (6 : Nat) == (0 : Int) && (Go.Proofs.Ythgagehgiooklaa.G.Mem.ldW (Go.Proofs.Ythgagehgiooklaa.G.Mem.flM { n := n9, g := g9, h := h9, off := x5, burns := x6, left := x7, steps := x8 } (Go.Proofs.Ythgagehgiooklaa.G.r_kind_0 (g4 (x0 + Int.toNat x3) (1 : Nat)) (8 : Int)) (Go.Proofs.Ythgagehgiooklaa.G.r_kind_0 (g4 (x0 + Int.toNat x3) (2 : Nat)) (64 : Int))) (7 : Int) (7 : Nat) == (0 : Int) && Bool.true)))
noncomputable def NvmApart_9_c30 (x0 : Nat) (x2 : Int) (x3 : Int) (g4 : Nat → Nat → Int) (x5 : Bool) (x6 : Bool) (x7 : Int) (x8 : Int) (n9 : Nat) (g9 : Nat → Nat → Int) (h9 : Nat → Nat → Int) : Bool := Go.Proofs.Ythgagehgiooklaa.G.Mem.ldW (Go.Proofs.Ythgagehgiooklaa.G.Mem.flM { n := n9, g := g9, h := h9, off := x5, burns := x6, left := x7, steps := x8 } (Go.Proofs.Ythgagehgiooklaa.G.r_kind_0 (g4 (x0 + Int.toNat x3) (1 : Nat)) (8 : Int)) (Go.Proofs.Ythgagehgiooklaa.G.r_kind_0 (g4 (x0 + Int.toNat x3) (2 : Nat)) (64 : Int))) (7 : Int) (3 : Nat) == x2 && (NvmApart_9_c29 x0 x3 g4 x5 x6 x7 x8 n9 g9 h9)
noncomputable def NvmApart_9_c31 (x0 : Nat) (x2 : Int) (x3 : Int) (g4 : Nat → Nat → Int) (x5 : Bool) (x6 : Bool) (x7 : Int) (x8 : Int) (n9 : Nat) (g9 : Nat → Nat → Int) (h9 : Nat → Nat → Int) : Bool := Go.Proofs.Ythgagehgiooklaa.G.Mem.ldW (Go.Proofs.Ythgagehgiooklaa.G.Mem.flM { n := n9, g := g9, h := h9, off := x5, burns := x6, left := x7, steps := x8 } (Go.Proofs.Ythgagehgiooklaa.G.r_kind_0 (g4 (x0 + Int.toNat x3) (1 : Nat)) (8 : Int)) (Go.Proofs.Ythgagehgiooklaa.G.r_kind_0 (g4 (x0 + Int.toNat x3) (2 : Nat)) (64 : Int))) (7 : Int) (2 : Nat) == (0 : Int) && (NvmApart_9_c30 x0 x2 x3 g4 x5 x6 x7 x8 n9 g9 h9)
noncomputable def NvmApart_9_c32 (x0 : Nat) (x2 : Int) (x3 : Int) (g4 : Nat → Nat → Int) (x5 : Bool) (x6 : Bool) (x7 : Int) (x8 : Int) (n9 : Nat) (g9 : Nat → Nat → Int) (h9 : Nat → Nat → Int) : Bool := Go.Proofs.Ythgagehgiooklaa.G.Mem.ldW (Go.Proofs.Ythgagehgiooklaa.G.Mem.flM { n := n9, g := g9, h := h9, off := x5, burns := x6, left := x7, steps := x8 } (Go.Proofs.Ythgagehgiooklaa.G.r_kind_0 (g4 (x0 + Int.toNat x3) (1 : Nat)) (8 : Int)) (Go.Proofs.Ythgagehgiooklaa.G.r_kind_0 (g4 (x0 + Int.toNat x3) (2 : Nat)) (64 : Int))) (7 : Int) (1 : Nat) == (0 : Int) && (NvmApart_9_c31 x0 x2 x3 g4 x5 x6 x7 x8 n9 g9 h9)
noncomputable def NvmApart_9_c33 (x0 : Nat) (x2 : Int) (x3 : Int) (g4 : Nat → Nat → Int) (x5 : Bool) (x6 : Bool) (x7 : Int) (x8 : Int) (n9 : Nat) (g9 : Nat → Nat → Int) (h9 : Nat → Nat → Int) : Bool := Go.Proofs.Ythgagehgiooklaa.G.Mem.ldW (Go.Proofs.Ythgagehgiooklaa.G.Mem.flM { n := n9, g := g9, h := h9, off := x5, burns := x6, left := x7, steps := x8 } (Go.Proofs.Ythgagehgiooklaa.G.r_kind_0 (g4 (x0 + Int.toNat x3) (1 : Nat)) (8 : Int)) (Go.Proofs.Ythgagehgiooklaa.G.r_kind_0 (g4 (x0 + Int.toNat x3) (2 : Nat)) (64 : Int))) (7 : Int) (0 : Nat) == (0 : Int) && (NvmApart_9_c32 x0 x2 x3 g4 x5 x6 x7 x8 n9 g9 h9)
noncomputable def NvmApart_9_c34 (x0 : Nat) (x2 : Int) (x3 : Int) (g4 : Nat → Nat → Int) (x5 : Bool) (x6 : Bool) (x7 : Int) (x8 : Int) (n9 : Nat) (g9 : Nat → Nat → Int) (h9 : Nat → Nat → Int) : Bool := !(NvmApart_9_c33 x0 x2 x3 g4 x5 x6 x7 x8 n9 g9 h9)
noncomputable def NvmApart_9_c35 (x0 : Nat) (x3 : Int) (g4 : Nat → Nat → Int) (x5 : Bool) (x6 : Bool) (x7 : Int) (x8 : Int) (n9 : Nat) (g9 : Nat → Nat → Int) (h9 : Nat → Nat → Int) : Bool := Go.Proofs.Ythgagehgiooklaa.G.Mem.ldW (Go.Proofs.Ythgagehgiooklaa.G.Mem.evM { n := n9, g := g9, h := h9, off := x5, burns := x6, left := x7, steps := x8 } (Go.Proofs.Ythgagehgiooklaa.G.r_kind_0 (g4 (x0 + Int.toNat x3) (2 : Nat)) (64 : Int)) (Go.Proofs.Ythgagehgiooklaa.G.r_kind_0 (g4 (x0 + Int.toNat x3) (3 : Nat)) (9 : Int))) (7 : Int) (4 : Nat) == (0 : Int) && (Go.Proofs.Ythgagehgiooklaa.G.Mem.ldW (Go.Proofs.Ythgagehgiooklaa.G.Mem.evM { n := n9, g := g9, h := h9, off := x5, burns := x6, left := x7, steps := x8 } (Go.Proofs.Ythgagehgiooklaa.G.r_kind_0 (g4 (x0 + Int.toNat x3) (2 : Nat)) (64 : Int)) (Go.Proofs.Ythgagehgiooklaa.G.r_kind_0 (g4 (x0 + Int.toNat x3) (3 : Nat)) (9 : Int))) (7 : Int) (5 : Nat) == (0 : Int) && (Go.Proofs.Ythgagehgiooklaa.G.Mem.ldW (Go.Proofs.Ythgagehgiooklaa.G.Mem.evM { n := n9, g := g9, h := h9, off := x5, burns := x6, left := x7, steps := x8 } (Go.Proofs.Ythgagehgiooklaa.G.r_kind_0 (g4 (x0 + Int.toNat x3) (2 : Nat)) (64 : Int)) (Go.Proofs.Ythgagehgiooklaa.G.r_kind_0 (g4 (x0 + Int.toNat x3) (3 : Nat)) (9 : Int))) (7 : Int) (6 : Nat) == (0 : Int) && (Go.Proofs.Ythgagehgiooklaa.G.Mem.ldW (Go.Proofs.Ythgagehgiooklaa.G.Mem.evM { n := n9, g := g9, h := h9, off := x5, burns := x6, left := x7, steps := x8 } (Go.Proofs.Ythgagehgiooklaa.G.r_kind_0 (g4 (x0 + Int.toNat x3) (2 : Nat)) (64 : Int)) (Go.Proofs.Ythgagehgiooklaa.G.r_kind_0 (g4 (x0 + Int.toNat x3) (3 : Nat)) (9 : Int))) (7 : Int) (7 : Nat) == (0 : Int) && Bool.true)))
noncomputable def NvmApart_9_c36 (x0 : Nat) (x2 : Int) (x3 : Int) (g4 : Nat → Nat → Int) (x5 : Bool) (x6 : Bool) (x7 : Int) (x8 : Int) (n9 : Nat) (g9 : Nat → Nat → Int) (h9 : Nat → Nat → Int) : Bool := Go.Proofs.Ythgagehgiooklaa.G.Mem.ldW (Go.Proofs.Ythgagehgiooklaa.G.Mem.evM { n := n9, g := g9, h := h9, off := x5, burns := x6, left := x7, steps := x8 } (Go.Proofs.Ythgagehgiooklaa.G.r_kind_0 (g4 (x0 + Int.toNat x3) (2 : Nat)) (64 : Int)) (Go.Proofs.Ythgagehgiooklaa.G.r_kind_0 (g4 (x0 + Int.toNat x3) (3 : Nat)) (9 : Int))) (7 : Int) (3 : Nat) == x2 && (NvmApart_9_c35 x0 x3 g4 x5 x6 x7 x8 n9 g9 h9)
noncomputable def NvmApart_9_c37 (x0 : Nat) (x2 : Int) (x3 : Int) (g4 : Nat → Nat → Int) (x5 : Bool) (x6 : Bool) (x7 : Int) (x8 : Int) (n9 : Nat) (g9 : Nat → Nat → Int) (h9 : Nat → Nat → Int) : Bool := Go.Proofs.Ythgagehgiooklaa.G.Mem.ldW (Go.Proofs.Ythgagehgiooklaa.G.Mem.evM { n := n9, g := g9, h := h9, off := x5, burns := x6, left := x7, steps := x8 } (Go.Proofs.Ythgagehgiooklaa.G.r_kind_0 (g4 (x0 + Int.toNat x3) (2 : Nat)) (64 : Int)) (Go.Proofs.Ythgagehgiooklaa.G.r_kind_0 (g4 (x0 + Int.toNat x3) (3 : Nat)) (9 : Int))) (7 : Int) (2 : Nat) == (0 : Int) && (NvmApart_9_c36 x0 x2 x3 g4 x5 x6 x7 x8 n9 g9 h9)
noncomputable def NvmApart_9_c38 (x0 : Nat) (x2 : Int) (x3 : Int) (g4 : Nat → Nat → Int) (x5 : Bool) (x6 : Bool) (x7 : Int) (x8 : Int) (n9 : Nat) (g9 : Nat → Nat → Int) (h9 : Nat → Nat → Int) : Bool := Go.Proofs.Ythgagehgiooklaa.G.Mem.ldW (Go.Proofs.Ythgagehgiooklaa.G.Mem.evM { n := n9, g := g9, h := h9, off := x5, burns := x6, left := x7, steps := x8 } (Go.Proofs.Ythgagehgiooklaa.G.r_kind_0 (g4 (x0 + Int.toNat x3) (2 : Nat)) (64 : Int)) (Go.Proofs.Ythgagehgiooklaa.G.r_kind_0 (g4 (x0 + Int.toNat x3) (3 : Nat)) (9 : Int))) (7 : Int) (1 : Nat) == (0 : Int) && (NvmApart_9_c37 x0 x2 x3 g4 x5 x6 x7 x8 n9 g9 h9)
noncomputable def NvmApart_9_c39 (x0 : Nat) (x2 : Int) (x3 : Int) (g4 : Nat → Nat → Int) (x5 : Bool) (x6 : Bool) (x7 : Int) (x8 : Int) (n9 : Nat) (g9 : Nat → Nat → Int) (h9 : Nat → Nat → Int) : Bool := Go.Proofs.Ythgagehgiooklaa.G.Mem.ldW (Go.Proofs.Ythgagehgiooklaa.G.Mem.evM { n := n9, g := g9, h := h9, off := x5, burns := x6, left := x7, steps := x8 } (Go.Proofs.Ythgagehgiooklaa.G.r_kind_0 (g4 (x0 + Int.toNat x3) (2 : Nat)) (64 : Int)) (Go.Proofs.Ythgagehgiooklaa.G.r_kind_0 (g4 (x0 + Int.toNat x3) (3 : Nat)) (9 : Int))) (7 : Int) (0 : Nat) == (0 : Int) && (NvmApart_9_c38 x0 x2 x3 g4 x5 x6 x7 x8 n9 g9 h9)
noncomputable def NvmApart_9_c40 (x0 : Nat) (x2 : Int) (x3 : Int) (g4 : Nat → Nat → Int) (x5 : Bool) (x6 : Bool) (x7 : Int) (x8 : Int) (n9 : Nat) (g9 : Nat → Nat → Int) (h9 : Nat → Nat → Int) : Bool := !(NvmApart_9_c39 x0 x2 x3 g4 x5 x6 x7 x8 n9 g9 h9)
noncomputable def B_NvmApart_9_s0 (x0 : Nat) (x1 : Nat) (x2 : Int) (x3 : Int) (n4 : Nat) (g4 : Nat → Nat → Int) (h4 : Nat → Nat → Int) (x5 : Bool) (x6 : Bool) (x7 : Int) (x8 : Int) (n9 : Nat) (g9 : Nat → Nat → Int) (h9 : Nat → Nat → Int) : Tr (Ex × List At) :=
 .br 86 (Go.Proofs.Ythgagehgiooklaa.G.r_kind_0 (g4 (x0 + Int.toNat x3) (0 : Nat)) (5 : Int) == (4 : Int))
 (.br 0 (Go.Proofs.Ythgagehgiooklaa.G.pdec (Go.Proofs.Ythgagehgiooklaa.G.Mem.Ok (900000 : Int) { n := n9, g := g9, h := h9, off := x5, burns := x6, left := x7, steps := x8 }))
 (.br 0 (Go.Proofs.Ythgagehgiooklaa.G.pdec (Go.Proofs.Ythgagehgiooklaa.G.KeepOk (fun (j : Nat) => h4 (x0 + Int.toNat x3) (((0 : Nat) + j) * (1 : Nat) + (0 : Nat))) (Int.toNat (g4 (x0 + Int.toNat x3) (5 : Nat)))))
 (.br 99 (Go.Proofs.Ythgagehgiooklaa.G.Mem.ldC (Go.Proofs.Ythgagehgiooklaa.G.Mem.crM { n := n9, g := g9, h := h9, off := x5, burns := x6, left := x7, steps := x8 } (fun (j : Nat) => h4 (x0 + Int.toNat x3) (((0 : Nat) + j) * (1 : Nat) + (0 : Nat))) (Int.toNat (g4 (x0 + Int.toNat x3) (5 : Nat)))) (7 : Int) != (0 : Int))
 (.ok (.ret, [(.b (Bool.false))]))
 (.br 104 ((NvmApart_9_c22 x0 x2 x3 g4 h4 x5 x6 x7 x8 n9 g9 h9))
 (.ok (.ret, [(.b (Bool.false))]))
 (.ok (.normal, [(.n (x0)), (.n (x1)), (.i (x2)), (.i (Go.IntKind.wrap Go.IntKind.i64 (x3 + (1 : Int)))), (.q (n4) (g4) ((5 : Nat)) ((1 : Nat)) (h4)), (.b ((Go.Proofs.Ythgagehgiooklaa.G.Mem.crM { n := n9, g := g9, h := h9, off := x5, burns := x6, left := x7, steps := x8 } (fun (j : Nat) => h4 (x0 + Int.toNat x3) (((0 : Nat) + j) * (1 : Nat) + (0 : Nat))) (Int.toNat (g4 (x0 + Int.toNat x3) (5 : Nat)))).off)), (.b ((Go.Proofs.Ythgagehgiooklaa.G.Mem.crM { n := n9, g := g9, h := h9, off := x5, burns := x6, left := x7, steps := x8 } (fun (j : Nat) => h4 (x0 + Int.toNat x3) (((0 : Nat) + j) * (1 : Nat) + (0 : Nat))) (Int.toNat (g4 (x0 + Int.toNat x3) (5 : Nat)))).burns)), (.i ((Go.Proofs.Ythgagehgiooklaa.G.Mem.crM { n := n9, g := g9, h := h9, off := x5, burns := x6, left := x7, steps := x8 } (fun (j : Nat) => h4 (x0 + Int.toNat x3) (((0 : Nat) + j) * (1 : Nat) + (0 : Nat))) (Int.toNat (g4 (x0 + Int.toNat x3) (5 : Nat)))).left)), (.i ((Go.Proofs.Ythgagehgiooklaa.G.Mem.crM { n := n9, g := g9, h := h9, off := x5, burns := x6, left := x7, steps := x8 } (fun (j : Nat) => h4 (x0 + Int.toNat x3) (((0 : Nat) + j) * (1 : Nat) + (0 : Nat))) (Int.toNat (g4 (x0 + Int.toNat x3) (5 : Nat)))).steps)), (.q ((Go.Proofs.Ythgagehgiooklaa.G.Mem.crM { n := n9, g := g9, h := h9, off := x5, burns := x6, left := x7, steps := x8 } (fun (j : Nat) => h4 (x0 + Int.toNat x3) (((0 : Nat) + j) * (1 : Nat) + (0 : Nat))) (Int.toNat (g4 (x0 + Int.toNat x3) (5 : Nat)))).n) ((Go.Proofs.Ythgagehgiooklaa.G.Mem.crM { n := n9, g := g9, h := h9, off := x5, burns := x6, left := x7, steps := x8 } (fun (j : Nat) => h4 (x0 + Int.toNat x3) (((0 : Nat) + j) * (1 : Nat) + (0 : Nat))) (Int.toNat (g4 (x0 + Int.toNat x3) (5 : Nat)))).g) ((16 : Nat)) ((2 : Nat)) ((Go.Proofs.Ythgagehgiooklaa.G.Mem.crM { n := n9, g := g9, h := h9, off := x5, burns := x6, left := x7, steps := x8 } (fun (j : Nat) => h4 (x0 + Int.toNat x3) (((0 : Nat) + j) * (1 : Nat) + (0 : Nat))) (Int.toNat (g4 (x0 + Int.toNat x3) (5 : Nat)))).h))]))))
 (.no))
 (.no))
 (.br 99 (Go.Proofs.Ythgagehgiooklaa.G.Mem.ldC { n := n9, g := g9, h := h9, off := x5, burns := x6, left := x7, steps := x8 } (7 : Int) != (0 : Int))
 (.ok (.ret, [(.b (Bool.false))]))
 (.br 104 (!(Go.Proofs.Ythgagehgiooklaa.G.Mem.ldW { n := n9, g := g9, h := h9, off := x5, burns := x6, left := x7, steps := x8 } (7 : Int) (0 : Nat) == (0 : Int) && (Go.Proofs.Ythgagehgiooklaa.G.Mem.ldW { n := n9, g := g9, h := h9, off := x5, burns := x6, left := x7, steps := x8 } (7 : Int) (1 : Nat) == (0 : Int) && (Go.Proofs.Ythgagehgiooklaa.G.Mem.ldW { n := n9, g := g9, h := h9, off := x5, burns := x6, left := x7, steps := x8 } (7 : Int) (2 : Nat) == (0 : Int) && (Go.Proofs.Ythgagehgiooklaa.G.Mem.ldW { n := n9, g := g9, h := h9, off := x5, burns := x6, left := x7, steps := x8 } (7 : Int) (3 : Nat) == x2 && (Go.Proofs.Ythgagehgiooklaa.G.Mem.ldW { n := n9, g := g9, h := h9, off := x5, burns := x6, left := x7, steps := x8 } (7 : Int) (4 : Nat) == (0 : Int) && (Go.Proofs.Ythgagehgiooklaa.G.Mem.ldW { n := n9, g := g9, h := h9, off := x5, burns := x6, left := x7, steps := x8 } (7 : Int) (5 : Nat) == (0 : Int) && (Go.Proofs.Ythgagehgiooklaa.G.Mem.ldW { n := n9, g := g9, h := h9, off := x5, burns := x6, left := x7, steps := x8 } (7 : Int) (6 : Nat) == (0 : Int) && (Go.Proofs.Ythgagehgiooklaa.G.Mem.ldW { n := n9, g := g9, h := h9, off := x5, burns := x6, left := x7, steps := x8 } (7 : Int) (7 : Nat) == (0 : Int) && Bool.true)))))))))
 (.ok (.ret, [(.b (Bool.false))]))
 (.ok (.normal, [(.n (x0)), (.n (x1)), (.i (x2)), (.i (Go.IntKind.wrap Go.IntKind.i64 (x3 + (1 : Int)))), (.q (n4) (g4) ((5 : Nat)) ((1 : Nat)) (h4)), (.b (x5)), (.b (x6)), (.i (x7)), (.i (x8)), (.q (n9) (g9) ((16 : Nat)) ((2 : Nat)) (h9))]))))
noncomputable def B_NvmApart_9 (x0 : Nat) (x1 : Nat) (x2 : Int) (x3 : Int) (n4 : Nat) (g4 : Nat → Nat → Int) (h4 : Nat → Nat → Int) (x5 : Bool) (x6 : Bool) (x7 : Int) (x8 : Int) (n9 : Nat) (g9 : Nat → Nat → Int) (h9 : Nat → Nat → Int) : Tr (Ex × List At) :=
 .br 35 (Decidable.decide (x3 < (↑x1 : Int)))
 (.br 38 (Decidable.decide (x3 < (80 : Int)))
 (.br 43 (Go.AM.within x3 x1)
 (.br 0 (Go.Proofs.Ythgagehgiooklaa.G.ok_kind (g4 (x0 + Int.toNat x3) (2 : Nat)) (64 : Int))
 (.br 49 (Go.Proofs.Ythgagehgiooklaa.G.r_kind_0 (g4 (x0 + Int.toNat x3) (2 : Nat)) (64 : Int) == (7 : Int))
 (.br 0 (Go.Proofs.Ythgagehgiooklaa.G.ok_kind (g4 (x0 + Int.toNat x3) (0 : Nat)) (5 : Int))
 (.br 53 (Go.Proofs.Ythgagehgiooklaa.G.r_kind_0 (g4 (x0 + Int.toNat x3) (0 : Nat)) (5 : Int) == (0 : Int))
 (.br 0 (Go.Proofs.Ythgagehgiooklaa.G.ok_kind (g4 (x0 + Int.toNat x3) (3 : Nat)) (8 : Int))
 (.br 0 (Go.Proofs.Ythgagehgiooklaa.G.pdec (Go.Proofs.Ythgagehgiooklaa.G.Mem.Ok (900000 : Int) { n := n9, g := g9, h := h9, off := x5, burns := x6, left := x7, steps := x8 }))
 (.br 99 (Go.Proofs.Ythgagehgiooklaa.G.Mem.ldC (Go.Proofs.Ythgagehgiooklaa.G.Mem.stM { n := n9, g := g9, h := h9, off := x5, burns := x6, left := x7, steps := x8 } (8 : Int) (Go.Proofs.Ythgagehgiooklaa.G.r_kind_0 (g4 (x0 + Int.toNat x3) (3 : Nat)) (8 : Int)) (g4 (x0 + Int.toNat x3) (4 : Nat))) (7 : Int) != (0 : Int))
 (.ok (.ret, [(.b (Bool.false))]))
 (.br 104 ((NvmApart_9_c4 x0 x2 x3 g4 x5 x6 x7 x8 n9 g9 h9))
 (.ok (.ret, [(.b (Bool.false))]))
 (.ok (.normal, [(.n (x0)), (.n (x1)), (.i (x2)), (.i (Go.IntKind.wrap Go.IntKind.i64 (x3 + (1 : Int)))), (.q (n4) (g4) ((5 : Nat)) ((1 : Nat)) (h4)), (.b ((Go.Proofs.Ythgagehgiooklaa.G.Mem.stM { n := n9, g := g9, h := h9, off := x5, burns := x6, left := x7, steps := x8 } (8 : Int) (Go.Proofs.Ythgagehgiooklaa.G.r_kind_0 (g4 (x0 + Int.toNat x3) (3 : Nat)) (8 : Int)) (g4 (x0 + Int.toNat x3) (4 : Nat))).off)), (.b ((Go.Proofs.Ythgagehgiooklaa.G.Mem.stM { n := n9, g := g9, h := h9, off := x5, burns := x6, left := x7, steps := x8 } (8 : Int) (Go.Proofs.Ythgagehgiooklaa.G.r_kind_0 (g4 (x0 + Int.toNat x3) (3 : Nat)) (8 : Int)) (g4 (x0 + Int.toNat x3) (4 : Nat))).burns)), (.i ((Go.Proofs.Ythgagehgiooklaa.G.Mem.stM { n := n9, g := g9, h := h9, off := x5, burns := x6, left := x7, steps := x8 } (8 : Int) (Go.Proofs.Ythgagehgiooklaa.G.r_kind_0 (g4 (x0 + Int.toNat x3) (3 : Nat)) (8 : Int)) (g4 (x0 + Int.toNat x3) (4 : Nat))).left)), (.i ((Go.Proofs.Ythgagehgiooklaa.G.Mem.stM { n := n9, g := g9, h := h9, off := x5, burns := x6, left := x7, steps := x8 } (8 : Int) (Go.Proofs.Ythgagehgiooklaa.G.r_kind_0 (g4 (x0 + Int.toNat x3) (3 : Nat)) (8 : Int)) (g4 (x0 + Int.toNat x3) (4 : Nat))).steps)), (.q ((Go.Proofs.Ythgagehgiooklaa.G.Mem.stM { n := n9, g := g9, h := h9, off := x5, burns := x6, left := x7, steps := x8 } (8 : Int) (Go.Proofs.Ythgagehgiooklaa.G.r_kind_0 (g4 (x0 + Int.toNat x3) (3 : Nat)) (8 : Int)) (g4 (x0 + Int.toNat x3) (4 : Nat))).n) ((Go.Proofs.Ythgagehgiooklaa.G.Mem.stM { n := n9, g := g9, h := h9, off := x5, burns := x6, left := x7, steps := x8 } (8 : Int) (Go.Proofs.Ythgagehgiooklaa.G.r_kind_0 (g4 (x0 + Int.toNat x3) (3 : Nat)) (8 : Int)) (g4 (x0 + Int.toNat x3) (4 : Nat))).g) ((16 : Nat)) ((2 : Nat)) ((Go.Proofs.Ythgagehgiooklaa.G.Mem.stM { n := n9, g := g9, h := h9, off := x5, burns := x6, left := x7, steps := x8 } (8 : Int) (Go.Proofs.Ythgagehgiooklaa.G.r_kind_0 (g4 (x0 + Int.toNat x3) (3 : Nat)) (8 : Int)) (g4 (x0 + Int.toNat x3) (4 : Nat))).h))]))))
 (.no))
 (.no))
 (.br 63 (Go.Proofs.Ythgagehgiooklaa.G.r_kind_0 (g4 (x0 + Int.toNat x3) (0 : Nat)) (5 : Int) == (1 : Int))
 (.br 0 (Go.Proofs.Ythgagehgiooklaa.G.ok_kind (g4 (x0 + Int.toNat x3) (1 : Nat)) (8 : Int))
 (.br 0 (Go.Proofs.Ythgagehgiooklaa.G.pdec (Go.Proofs.Ythgagehgiooklaa.G.Mem.Ok (900000 : Int) { n := n9, g := g9, h := h9, off := x5, burns := x6, left := x7, steps := x8 }))
 (.br 99 (Go.Proofs.Ythgagehgiooklaa.G.Mem.ldC (Go.Proofs.Ythgagehgiooklaa.G.Mem.flM { n := n9, g := g9, h := h9, off := x5, burns := x6, left := x7, steps := x8 } (Go.Proofs.Ythgagehgiooklaa.G.r_kind_0 (g4 (x0 + Int.toNat x3) (1 : Nat)) (8 : Int)) (8 : Int)) (7 : Int) != (0 : Int))
 (.ok (.ret, [(.b (Bool.false))]))
 (.br 104 ((NvmApart_9_c8 x0 x2 x3 g4 x5 x6 x7 x8 n9 g9 h9))
 (.ok (.ret, [(.b (Bool.false))]))
 (.ok (.normal, [(.n (x0)), (.n (x1)), (.i (x2)), (.i (Go.IntKind.wrap Go.IntKind.i64 (x3 + (1 : Int)))), (.q (n4) (g4) ((5 : Nat)) ((1 : Nat)) (h4)), (.b ((Go.Proofs.Ythgagehgiooklaa.G.Mem.flM { n := n9, g := g9, h := h9, off := x5, burns := x6, left := x7, steps := x8 } (Go.Proofs.Ythgagehgiooklaa.G.r_kind_0 (g4 (x0 + Int.toNat x3) (1 : Nat)) (8 : Int)) (8 : Int)).off)), (.b ((Go.Proofs.Ythgagehgiooklaa.G.Mem.flM { n := n9, g := g9, h := h9, off := x5, burns := x6, left := x7, steps := x8 } (Go.Proofs.Ythgagehgiooklaa.G.r_kind_0 (g4 (x0 + Int.toNat x3) (1 : Nat)) (8 : Int)) (8 : Int)).burns)), (.i ((Go.Proofs.Ythgagehgiooklaa.G.Mem.flM { n := n9, g := g9, h := h9, off := x5, burns := x6, left := x7, steps := x8 } (Go.Proofs.Ythgagehgiooklaa.G.r_kind_0 (g4 (x0 + Int.toNat x3) (1 : Nat)) (8 : Int)) (8 : Int)).left)), (.i ((Go.Proofs.Ythgagehgiooklaa.G.Mem.flM { n := n9, g := g9, h := h9, off := x5, burns := x6, left := x7, steps := x8 } (Go.Proofs.Ythgagehgiooklaa.G.r_kind_0 (g4 (x0 + Int.toNat x3) (1 : Nat)) (8 : Int)) (8 : Int)).steps)), (.q ((Go.Proofs.Ythgagehgiooklaa.G.Mem.flM { n := n9, g := g9, h := h9, off := x5, burns := x6, left := x7, steps := x8 } (Go.Proofs.Ythgagehgiooklaa.G.r_kind_0 (g4 (x0 + Int.toNat x3) (1 : Nat)) (8 : Int)) (8 : Int)).n) ((Go.Proofs.Ythgagehgiooklaa.G.Mem.flM { n := n9, g := g9, h := h9, off := x5, burns := x6, left := x7, steps := x8 } (Go.Proofs.Ythgagehgiooklaa.G.r_kind_0 (g4 (x0 + Int.toNat x3) (1 : Nat)) (8 : Int)) (8 : Int)).g) ((16 : Nat)) ((2 : Nat)) ((Go.Proofs.Ythgagehgiooklaa.G.Mem.flM { n := n9, g := g9, h := h9, off := x5, burns := x6, left := x7, steps := x8 } (Go.Proofs.Ythgagehgiooklaa.G.r_kind_0 (g4 (x0 + Int.toNat x3) (1 : Nat)) (8 : Int)) (8 : Int)).h))]))))
 (.no))
 (.no))
 (.br 71 (Go.Proofs.Ythgagehgiooklaa.G.r_kind_0 (g4 (x0 + Int.toNat x3) (0 : Nat)) (5 : Int) == (2 : Int))
 (.br 0 (Go.Proofs.Ythgagehgiooklaa.G.ok_kind (g4 (x0 + Int.toNat x3) (1 : Nat)) (8 : Int))
 (.br 0 (Go.Proofs.Ythgagehgiooklaa.G.pdec (Go.Proofs.Ythgagehgiooklaa.G.Mem.Ok (900000 : Int) { n := n9, g := g9, h := h9, off := x5, burns := x6, left := x7, steps := x8 }))
 (.br 99 (Go.Proofs.Ythgagehgiooklaa.G.Mem.ldC (Go.Proofs.Ythgagehgiooklaa.G.Mem.feM { n := n9, g := g9, h := h9, off := x5, burns := x6, left := x7, steps := x8 } (Go.Proofs.Ythgagehgiooklaa.G.r_kind_0 (g4 (x0 + Int.toNat x3) (1 : Nat)) (8 : Int))) (7 : Int) != (0 : Int))
 (.ok (.ret, [(.b (Bool.false))]))
 (.br 104 ((NvmApart_9_c12 x0 x2 x3 g4 x5 x6 x7 x8 n9 g9 h9))
 (.ok (.ret, [(.b (Bool.false))]))
 (.ok (.normal, [(.n (x0)), (.n (x1)), (.i (x2)), (.i (Go.IntKind.wrap Go.IntKind.i64 (x3 + (1 : Int)))), (.q (n4) (g4) ((5 : Nat)) ((1 : Nat)) (h4)), (.b ((Go.Proofs.Ythgagehgiooklaa.G.Mem.feM { n := n9, g := g9, h := h9, off := x5, burns := x6, left := x7, steps := x8 } (Go.Proofs.Ythgagehgiooklaa.G.r_kind_0 (g4 (x0 + Int.toNat x3) (1 : Nat)) (8 : Int))).off)), (.b ((Go.Proofs.Ythgagehgiooklaa.G.Mem.feM { n := n9, g := g9, h := h9, off := x5, burns := x6, left := x7, steps := x8 } (Go.Proofs.Ythgagehgiooklaa.G.r_kind_0 (g4 (x0 + Int.toNat x3) (1 : Nat)) (8 : Int))).burns)), (.i ((Go.Proofs.Ythgagehgiooklaa.G.Mem.feM { n := n9, g := g9, h := h9, off := x5, burns := x6, left := x7, steps := x8 } (Go.Proofs.Ythgagehgiooklaa.G.r_kind_0 (g4 (x0 + Int.toNat x3) (1 : Nat)) (8 : Int))).left)), (.i ((Go.Proofs.Ythgagehgiooklaa.G.Mem.feM { n := n9, g := g9, h := h9, off := x5, burns := x6, left := x7, steps := x8 } (Go.Proofs.Ythgagehgiooklaa.G.r_kind_0 (g4 (x0 + Int.toNat x3) (1 : Nat)) (8 : Int))).steps)), (.q ((Go.Proofs.Ythgagehgiooklaa.G.Mem.feM { n := n9, g := g9, h := h9, off := x5, burns := x6, left := x7, steps := x8 } (Go.Proofs.Ythgagehgiooklaa.G.r_kind_0 (g4 (x0 + Int.toNat x3) (1 : Nat)) (8 : Int))).n) ((Go.Proofs.Ythgagehgiooklaa.G.Mem.feM { n := n9, g := g9, h := h9, off := x5, burns := x6, left := x7, steps := x8 } (Go.Proofs.Ythgagehgiooklaa.G.r_kind_0 (g4 (x0 + Int.toNat x3) (1 : Nat)) (8 : Int))).g) ((16 : Nat)) ((2 : Nat)) ((Go.Proofs.Ythgagehgiooklaa.G.Mem.feM { n := n9, g := g9, h := h9, off := x5, burns := x6, left := x7, steps := x8 } (Go.Proofs.Ythgagehgiooklaa.G.r_kind_0 (g4 (x0 + Int.toNat x3) (1 : Nat)) (8 : Int))).h))]))))
 (.no))
 (.no))
 (.br 78 (Go.Proofs.Ythgagehgiooklaa.G.r_kind_0 (g4 (x0 + Int.toNat x3) (0 : Nat)) (5 : Int) == (3 : Int))
 (.br 0 (Go.Proofs.Ythgagehgiooklaa.G.ok_kind (g4 (x0 + Int.toNat x3) (3 : Nat)) (9 : Int))
 (.br 0 (Go.Proofs.Ythgagehgiooklaa.G.pdec (Go.Proofs.Ythgagehgiooklaa.G.Mem.Ok (900000 : Int) { n := n9, g := g9, h := h9, off := x5, burns := x6, left := x7, steps := x8 }))
 (.br 99 (Go.Proofs.Ythgagehgiooklaa.G.Mem.ldC (Go.Proofs.Ythgagehgiooklaa.G.Mem.evM { n := n9, g := g9, h := h9, off := x5, burns := x6, left := x7, steps := x8 } (8 : Int) (Go.Proofs.Ythgagehgiooklaa.G.r_kind_0 (g4 (x0 + Int.toNat x3) (3 : Nat)) (9 : Int))) (7 : Int) != (0 : Int))
 (.ok (.ret, [(.b (Bool.false))]))
 (.br 104 ((NvmApart_9_c16 x0 x2 x3 g4 x5 x6 x7 x8 n9 g9 h9))
 (.ok (.ret, [(.b (Bool.false))]))
 (.ok (.normal, [(.n (x0)), (.n (x1)), (.i (x2)), (.i (Go.IntKind.wrap Go.IntKind.i64 (x3 + (1 : Int)))), (.q (n4) (g4) ((5 : Nat)) ((1 : Nat)) (h4)), (.b ((Go.Proofs.Ythgagehgiooklaa.G.Mem.evM { n := n9, g := g9, h := h9, off := x5, burns := x6, left := x7, steps := x8 } (8 : Int) (Go.Proofs.Ythgagehgiooklaa.G.r_kind_0 (g4 (x0 + Int.toNat x3) (3 : Nat)) (9 : Int))).off)), (.b ((Go.Proofs.Ythgagehgiooklaa.G.Mem.evM { n := n9, g := g9, h := h9, off := x5, burns := x6, left := x7, steps := x8 } (8 : Int) (Go.Proofs.Ythgagehgiooklaa.G.r_kind_0 (g4 (x0 + Int.toNat x3) (3 : Nat)) (9 : Int))).burns)), (.i ((Go.Proofs.Ythgagehgiooklaa.G.Mem.evM { n := n9, g := g9, h := h9, off := x5, burns := x6, left := x7, steps := x8 } (8 : Int) (Go.Proofs.Ythgagehgiooklaa.G.r_kind_0 (g4 (x0 + Int.toNat x3) (3 : Nat)) (9 : Int))).left)), (.i ((Go.Proofs.Ythgagehgiooklaa.G.Mem.evM { n := n9, g := g9, h := h9, off := x5, burns := x6, left := x7, steps := x8 } (8 : Int) (Go.Proofs.Ythgagehgiooklaa.G.r_kind_0 (g4 (x0 + Int.toNat x3) (3 : Nat)) (9 : Int))).steps)), (.q ((Go.Proofs.Ythgagehgiooklaa.G.Mem.evM { n := n9, g := g9, h := h9, off := x5, burns := x6, left := x7, steps := x8 } (8 : Int) (Go.Proofs.Ythgagehgiooklaa.G.r_kind_0 (g4 (x0 + Int.toNat x3) (3 : Nat)) (9 : Int))).n) ((Go.Proofs.Ythgagehgiooklaa.G.Mem.evM { n := n9, g := g9, h := h9, off := x5, burns := x6, left := x7, steps := x8 } (8 : Int) (Go.Proofs.Ythgagehgiooklaa.G.r_kind_0 (g4 (x0 + Int.toNat x3) (3 : Nat)) (9 : Int))).g) ((16 : Nat)) ((2 : Nat)) ((Go.Proofs.Ythgagehgiooklaa.G.Mem.evM { n := n9, g := g9, h := h9, off := x5, burns := x6, left := x7, steps := x8 } (8 : Int) (Go.Proofs.Ythgagehgiooklaa.G.r_kind_0 (g4 (x0 + Int.toNat x3) (3 : Nat)) (9 : Int))).h))]))))
 (.no))
 (.no))
 (B_NvmApart_9_s0 x0 x1 x2 x3 n4 g4 h4 x5 x6 x7 x8 n9 g9 h9)))))
 (.no))
 (.br 0 (Go.Proofs.Ythgagehgiooklaa.G.ok_kind (g4 (x0 + Int.toNat x3) (0 : Nat)) (5 : Int))
 (.br 53 (Go.Proofs.Ythgagehgiooklaa.G.r_kind_0 (g4 (x0 + Int.toNat x3) (0 : Nat)) (5 : Int) == (0 : Int))
 (.br 0 (Go.Proofs.Ythgagehgiooklaa.G.ok_kind (g4 (x0 + Int.toNat x3) (3 : Nat)) (8 : Int))
 (.br 0 (Go.Proofs.Ythgagehgiooklaa.G.pdec (Go.Proofs.Ythgagehgiooklaa.G.Mem.Ok (900000 : Int) { n := n9, g := g9, h := h9, off := x5, burns := x6, left := x7, steps := x8 }))
 (.br 99 (Go.Proofs.Ythgagehgiooklaa.G.Mem.ldC (Go.Proofs.Ythgagehgiooklaa.G.Mem.stM { n := n9, g := g9, h := h9, off := x5, burns := x6, left := x7, steps := x8 } (Go.Proofs.Ythgagehgiooklaa.G.r_kind_0 (g4 (x0 + Int.toNat x3) (2 : Nat)) (64 : Int)) (Go.Proofs.Ythgagehgiooklaa.G.r_kind_0 (g4 (x0 + Int.toNat x3) (3 : Nat)) (8 : Int)) (g4 (x0 + Int.toNat x3) (4 : Nat))) (7 : Int) != (0 : Int))
 (.ok (.ret, [(.b (Bool.false))]))
 (.br 104 ((NvmApart_9_c28 x0 x2 x3 g4 x5 x6 x7 x8 n9 g9 h9))
 (.ok (.ret, [(.b (Bool.false))]))
 (.ok (.normal, [(.n (x0)), (.n (x1)), (.i (x2)), (.i (Go.IntKind.wrap Go.IntKind.i64 (x3 + (1 : Int)))), (.q (n4) (g4) ((5 : Nat)) ((1 : Nat)) (h4)), (.b ((Go.Proofs.Ythgagehgiooklaa.G.Mem.stM { n := n9, g := g9, h := h9, off := x5, burns := x6, left := x7, steps := x8 } (Go.Proofs.Ythgagehgiooklaa.G.r_kind_0 (g4 (x0 + Int.toNat x3) (2 : Nat)) (64 : Int)) (Go.Proofs.Ythgagehgiooklaa.G.r_kind_0 (g4 (x0 + Int.toNat x3) (3 : Nat)) (8 : Int)) (g4 (x0 + Int.toNat x3) (4 : Nat))).off)), (.b ((Go.Proofs.Ythgagehgiooklaa.G.Mem.stM { n := n9, g := g9, h := h9, off := x5, burns := x6, left := x7, steps := x8 } (Go.Proofs.Ythgagehgiooklaa.G.r_kind_0 (g4 (x0 + Int.toNat x3) (2 : Nat)) (64 : Int)) (Go.Proofs.Ythgagehgiooklaa.G.r_kind_0 (g4 (x0 + Int.toNat x3) (3 : Nat)) (8 : Int)) (g4 (x0 + Int.toNat x3) (4 : Nat))).burns)), (.i ((Go.Proofs.Ythgagehgiooklaa.G.Mem.stM { n := n9, g := g9, h := h9, off := x5, burns := x6, left := x7, steps := x8 } (Go.Proofs.Ythgagehgiooklaa.G.r_kind_0 (g4 (x0 + Int.toNat x3) (2 : Nat)) (64 : Int)) (Go.Proofs.Ythgagehgiooklaa.G.r_kind_0 (g4 (x0 + Int.toNat x3) (3 : Nat)) (8 : Int)) (g4 (x0 + Int.toNat x3) (4 : Nat))).left)), (.i ((Go.Proofs.Ythgagehgiooklaa.G.Mem.stM { n := n9, g := g9, h := h9, off := x5, burns := x6, left := x7, steps := x8 } (Go.Proofs.Ythgagehgiooklaa.G.r_kind_0 (g4 (x0 + Int.toNat x3) (2 : Nat)) (64 : Int)) (Go.Proofs.Ythgagehgiooklaa.G.r_kind_0 (g4 (x0 + Int.toNat x3) (3 : Nat)) (8 : Int)) (g4 (x0 + Int.toNat x3) (4 : Nat))).steps)), (.q ((Go.Proofs.Ythgagehgiooklaa.G.Mem.stM { n := n9, g := g9, h := h9, off := x5, burns := x6, left := x7, steps := x8 } (Go.Proofs.Ythgagehgiooklaa.G.r_kind_0 (g4 (x0 + Int.toNat x3) (2 : Nat)) (64 : Int)) (Go.Proofs.Ythgagehgiooklaa.G.r_kind_0 (g4 (x0 + Int.toNat x3) (3 : Nat)) (8 : Int)) (g4 (x0 + Int.toNat x3) (4 : Nat))).n) ((Go.Proofs.Ythgagehgiooklaa.G.Mem.stM { n := n9, g := g9, h := h9, off := x5, burns := x6, left := x7, steps := x8 } (Go.Proofs.Ythgagehgiooklaa.G.r_kind_0 (g4 (x0 + Int.toNat x3) (2 : Nat)) (64 : Int)) (Go.Proofs.Ythgagehgiooklaa.G.r_kind_0 (g4 (x0 + Int.toNat x3) (3 : Nat)) (8 : Int)) (g4 (x0 + Int.toNat x3) (4 : Nat))).g) ((16 : Nat)) ((2 : Nat)) ((Go.Proofs.Ythgagehgiooklaa.G.Mem.stM { n := n9, g := g9, h := h9, off := x5, burns := x6, left := x7, steps := x8 } (Go.Proofs.Ythgagehgiooklaa.G.r_kind_0 (g4 (x0 + Int.toNat x3) (2 : Nat)) (64 : Int)) (Go.Proofs.Ythgagehgiooklaa.G.r_kind_0 (g4 (x0 + Int.toNat x3) (3 : Nat)) (8 : Int)) (g4 (x0 + Int.toNat x3) (4 : Nat))).h))]))))
 (.no))
 (.no))
 (.br 63 (Go.Proofs.Ythgagehgiooklaa.G.r_kind_0 (g4 (x0 + Int.toNat x3) (0 : Nat)) (5 : Int) == (1 : Int))
 (.br 0 (Go.Proofs.Ythgagehgiooklaa.G.ok_kind (g4 (x0 + Int.toNat x3) (1 : Nat)) (8 : Int))
 (.br 0 (Go.Proofs.Ythgagehgiooklaa.G.pdec (Go.Proofs.Ythgagehgiooklaa.G.Mem.Ok (900000 : Int) { n := n9, g := g9, h := h9, off := x5, burns := x6, left := x7, steps := x8 }))
 (.br 99 (Go.Proofs.Ythgagehgiooklaa.G.Mem.ldC (Go.Proofs.Ythgagehgiooklaa.G.Mem.flM { n := n9, g := g9, h := h9, off := x5, burns := x6, left := x7, steps := x8 } (Go.Proofs.Ythgagehgiooklaa.G.r_kind_0 (g4 (x0 + Int.toNat x3) (1 : Nat)) (8 : Int)) (Go.Proofs.Ythgagehgiooklaa.G.r_kind_0 (g4 (x0 + Int.toNat x3) (2 : Nat)) (64 : Int))) (7 : Int) != (0 : Int))
 (.ok (.ret, [(.b (Bool.false))]))
 (.br 104 ((NvmApart_9_c34 x0 x2 x3 g4 x5 x6 x7 x8 n9 g9 h9))
 (.ok (.ret, [(.b (Bool.false))]))
 (.ok (.normal, [(.n (x0)), (.n (x1)), (.i (x2)), (.i (Go.IntKind.wrap Go.IntKind.i64 (x3 + (1 : Int)))), (.q (n4) (g4) ((5 : Nat)) ((1 : Nat)) (h4)), (.b ((Go.Proofs.Ythgagehgiooklaa.G.Mem.flM { n := n9, g := g9, h := h9, off := x5, burns := x6, left := x7, steps := x8 } (Go.Proofs.Ythgagehgiooklaa.G.r_kind_0 (g4 (x0 + Int.toNat x3) (1 : Nat)) (8 : Int)) (Go.Proofs.Ythgagehgiooklaa.G.r_kind_0 (g4 (x0 + Int.toNat x3) (2 : Nat)) (64 : Int))).off)), (.b ((Go.Proofs.Ythgagehgiooklaa.G.Mem.flM { n := n9, g := g9, h := h9, off := x5, burns := x6, left := x7, steps := x8 } (Go.Proofs.Ythgagehgiooklaa.G.r_kind_0 (g4 (x0 + Int.toNat x3) (1 : Nat)) (8 : Int)) (Go.Proofs.Ythgagehgiooklaa.G.r_kind_0 (g4 (x0 + Int.toNat x3) (2 : Nat)) (64 : Int))).burns)), (.i ((Go.Proofs.Ythgagehgiooklaa.G.Mem.flM { n := n9, g := g9, h := h9, off := x5, burns := x6, left := x7, steps := x8 } (Go.Proofs.Ythgagehgiooklaa.G.r_kind_0 (g4 (x0 + Int.toNat x3) (1 : Nat)) (8 : Int)) (Go.Proofs.Ythgagehgiooklaa.G.r_kind_0 (g4 (x0 + Int.toNat x3) (2 : Nat)) (64 : Int))).left)), (.i ((Go.Proofs.Ythgagehgiooklaa.G.Mem.flM { n := n9, g := g9, h := h9, off := x5, burns := x6, left := x7, steps := x8 } (Go.Proofs.Ythgagehgiooklaa.G.r_kind_0 (g4 (x0 + Int.toNat x3) (1 : Nat)) (8 : Int)) (Go.Proofs.Ythgagehgiooklaa.G.r_kind_0 (g4 (x0 + Int.toNat x3) (2 : Nat)) (64 : Int))).steps)), (.q ((Go.Proofs.Ythgagehgiooklaa.G.Mem.flM { n := n9, g := g9, h := h9, off := x5, burns := x6, left := x7, steps := x8 } (Go.Proofs.Ythgagehgiooklaa.G.r_kind_0 (g4 (x0 + Int.toNat x3) (1 : Nat)) (8 : Int)) (Go.Proofs.Ythgagehgiooklaa.G.r_kind_0 (g4 (x0 + Int.toNat x3) (2 : Nat)) (64 : Int))).n) ((Go.Proofs.Ythgagehgiooklaa.G.Mem.flM { n := n9, g := g9, h := h9, off := x5, burns := x6, left := x7, steps := x8 } (Go.Proofs.Ythgagehgiooklaa.G.r_kind_0 (g4 (x0 + Int.toNat x3) (1 : Nat)) (8 : Int)) (Go.Proofs.Ythgagehgiooklaa.G.r_kind_0 (g4 (x0 + Int.toNat x3) (2 : Nat)) (64 : Int))).g) ((16 : Nat)) ((2 : Nat)) ((Go.Proofs.Ythgagehgiooklaa.G.Mem.flM { n := n9, g := g9, h := h9, off := x5, burns := x6, left := x7, steps := x8 } (Go.Proofs.Ythgagehgiooklaa.G.r_kind_0 (g4 (x0 + Int.toNat x3) (1 : Nat)) (8 : Int)) (Go.Proofs.Ythgagehgiooklaa.G.r_kind_0 (g4 (x0 + Int.toNat x3) (2 : Nat)) (64 : Int))).h))]))))
 (.no))
 (.no))
 (.br 71 (Go.Proofs.Ythgagehgiooklaa.G.r_kind_0 (g4 (x0 + Int.toNat x3) (0 : Nat)) (5 : Int) == (2 : Int))
 (.br 0 (Go.Proofs.Ythgagehgiooklaa.G.ok_kind (g4 (x0 + Int.toNat x3) (1 : Nat)) (8 : Int))
 (.br 0 (Go.Proofs.Ythgagehgiooklaa.G.pdec (Go.Proofs.Ythgagehgiooklaa.G.Mem.Ok (900000 : Int) { n := n9, g := g9, h := h9, off := x5, burns := x6, left := x7, steps := x8 }))
 (.br 99 (Go.Proofs.Ythgagehgiooklaa.G.Mem.ldC (Go.Proofs.Ythgagehgiooklaa.G.Mem.feM { n := n9, g := g9, h := h9, off := x5, burns := x6, left := x7, steps := x8 } (Go.Proofs.Ythgagehgiooklaa.G.r_kind_0 (g4 (x0 + Int.toNat x3) (1 : Nat)) (8 : Int))) (7 : Int) != (0 : Int))
 (.ok (.ret, [(.b (Bool.false))]))
 (.br 104 ((NvmApart_9_c12 x0 x2 x3 g4 x5 x6 x7 x8 n9 g9 h9))
 (.ok (.ret, [(.b (Bool.false))]))
 (.ok (.normal, [(.n (x0)), (.n (x1)), (.i (x2)), (.i (Go.IntKind.wrap Go.IntKind.i64 (x3 + (1 : Int)))), (.q (n4) (g4) ((5 : Nat)) ((1 : Nat)) (h4)), (.b ((Go.Proofs.Ythgagehgiooklaa.G.Mem.feM { n := n9, g := g9, h := h9, off := x5, burns := x6, left := x7, steps := x8 } (Go.Proofs.Ythgagehgiooklaa.G.r_kind_0 (g4 (x0 + Int.toNat x3) (1 : Nat)) (8 : Int))).off)), (.b ((Go.Proofs.Ythgagehgiooklaa.G.Mem.feM { n := n9, g := g9, h := h9, off := x5, burns := x6, left := x7, steps := x8 } (Go.Proofs.Ythgagehgiooklaa.G.r_kind_0 (g4 (x0 + Int.toNat x3) (1 : Nat)) (8 : Int))).burns)), (.i ((Go.Proofs.Ythgagehgiooklaa.G.Mem.feM { n := n9, g := g9, h := h9, off := x5, burns := x6, left := x7, steps := x8 } (Go.Proofs.Ythgagehgiooklaa.G.r_kind_0 (g4 (x0 + Int.toNat x3) (1 : Nat)) (8 : Int))).left)), (.i ((Go.Proofs.Ythgagehgiooklaa.G.Mem.feM { n := n9, g := g9, h := h9, off := x5, burns := x6, left := x7, steps := x8 } (Go.Proofs.Ythgagehgiooklaa.G.r_kind_0 (g4 (x0 + Int.toNat x3) (1 : Nat)) (8 : Int))).steps)), (.q ((Go.Proofs.Ythgagehgiooklaa.G.Mem.feM { n := n9, g := g9, h := h9, off := x5, burns := x6, left := x7, steps := x8 } (Go.Proofs.Ythgagehgiooklaa.G.r_kind_0 (g4 (x0 + Int.toNat x3) (1 : Nat)) (8 : Int))).n) ((Go.Proofs.Ythgagehgiooklaa.G.Mem.feM { n := n9, g := g9, h := h9, off := x5, burns := x6, left := x7, steps := x8 } (Go.Proofs.Ythgagehgiooklaa.G.r_kind_0 (g4 (x0 + Int.toNat x3) (1 : Nat)) (8 : Int))).g) ((16 : Nat)) ((2 : Nat)) ((Go.Proofs.Ythgagehgiooklaa.G.Mem.feM { n := n9, g := g9, h := h9, off := x5, burns := x6, left := x7, steps := x8 } (Go.Proofs.Ythgagehgiooklaa.G.r_kind_0 (g4 (x0 + Int.toNat x3) (1 : Nat)) (8 : Int))).h))]))))
 (.no))
 (.no))
 (.br 78 (Go.Proofs.Ythgagehgiooklaa.G.r_kind_0 (g4 (x0 + Int.toNat x3) (0 : Nat)) (5 : Int) == (3 : Int))
 (.br 0 (Go.Proofs.Ythgagehgiooklaa.G.ok_kind (g4 (x0 + Int.toNat x3) (3 : Nat)) (9 : Int))
 (.br 0 (Go.Proofs.Ythgagehgiooklaa.G.pdec (Go.Proofs.Ythgagehgiooklaa.G.Mem.Ok (900000 : Int) { n := n9, g := g9, h := h9, off := x5, burns := x6, left := x7, steps := x8 }))
 (.br 99 (Go.Proofs.Ythgagehgiooklaa.G.Mem.ldC (Go.Proofs.Ythgagehgiooklaa.G.Mem.evM { n := n9, g := g9, h := h9, off := x5, burns := x6, left := x7, steps := x8 } (Go.Proofs.Ythgagehgiooklaa.G.r_kind_0 (g4 (x0 + Int.toNat x3) (2 : Nat)) (64 : Int)) (Go.Proofs.Ythgagehgiooklaa.G.r_kind_0 (g4 (x0 + Int.toNat x3) (3 : Nat)) (9 : Int))) (7 : Int) != (0 : Int))
 (.ok (.ret, [(.b (Bool.false))]))
 (.br 104 ((NvmApart_9_c40 x0 x2 x3 g4 x5 x6 x7 x8 n9 g9 h9))
 (.ok (.ret, [(.b (Bool.false))]))
 (.ok (.normal, [(.n (x0)), (.n (x1)), (.i (x2)), (.i (Go.IntKind.wrap Go.IntKind.i64 (x3 + (1 : Int)))), (.q (n4) (g4) ((5 : Nat)) ((1 : Nat)) (h4)), (.b ((Go.Proofs.Ythgagehgiooklaa.G.Mem.evM { n := n9, g := g9, h := h9, off := x5, burns := x6, left := x7, steps := x8 } (Go.Proofs.Ythgagehgiooklaa.G.r_kind_0 (g4 (x0 + Int.toNat x3) (2 : Nat)) (64 : Int)) (Go.Proofs.Ythgagehgiooklaa.G.r_kind_0 (g4 (x0 + Int.toNat x3) (3 : Nat)) (9 : Int))).off)), (.b ((Go.Proofs.Ythgagehgiooklaa.G.Mem.evM { n := n9, g := g9, h := h9, off := x5, burns := x6, left := x7, steps := x8 } (Go.Proofs.Ythgagehgiooklaa.G.r_kind_0 (g4 (x0 + Int.toNat x3) (2 : Nat)) (64 : Int)) (Go.Proofs.Ythgagehgiooklaa.G.r_kind_0 (g4 (x0 + Int.toNat x3) (3 : Nat)) (9 : Int))).burns)), (.i ((Go.Proofs.Ythgagehgiooklaa.G.Mem.evM { n := n9, g := g9, h := h9, off := x5, burns := x6, left := x7, steps := x8 } (Go.Proofs.Ythgagehgiooklaa.G.r_kind_0 (g4 (x0 + Int.toNat x3) (2 : Nat)) (64 : Int)) (Go.Proofs.Ythgagehgiooklaa.G.r_kind_0 (g4 (x0 + Int.toNat x3) (3 : Nat)) (9 : Int))).left)), (.i ((Go.Proofs.Ythgagehgiooklaa.G.Mem.evM { n := n9, g := g9, h := h9, off := x5, burns := x6, left := x7, steps := x8 } (Go.Proofs.Ythgagehgiooklaa.G.r_kind_0 (g4 (x0 + Int.toNat x3) (2 : Nat)) (64 : Int)) (Go.Proofs.Ythgagehgiooklaa.G.r_kind_0 (g4 (x0 + Int.toNat x3) (3 : Nat)) (9 : Int))).steps)), (.q ((Go.Proofs.Ythgagehgiooklaa.G.Mem.evM { n := n9, g := g9, h := h9, off := x5, burns := x6, left := x7, steps := x8 } (Go.Proofs.Ythgagehgiooklaa.G.r_kind_0 (g4 (x0 + Int.toNat x3) (2 : Nat)) (64 : Int)) (Go.Proofs.Ythgagehgiooklaa.G.r_kind_0 (g4 (x0 + Int.toNat x3) (3 : Nat)) (9 : Int))).n) ((Go.Proofs.Ythgagehgiooklaa.G.Mem.evM { n := n9, g := g9, h := h9, off := x5, burns := x6, left := x7, steps := x8 } (Go.Proofs.Ythgagehgiooklaa.G.r_kind_0 (g4 (x0 + Int.toNat x3) (2 : Nat)) (64 : Int)) (Go.Proofs.Ythgagehgiooklaa.G.r_kind_0 (g4 (x0 + Int.toNat x3) (3 : Nat)) (9 : Int))).g) ((16 : Nat)) ((2 : Nat)) ((Go.Proofs.Ythgagehgiooklaa.G.Mem.evM { n := n9, g := g9, h := h9, off := x5, burns := x6, left := x7, steps := x8 } (Go.Proofs.Ythgagehgiooklaa.G.r_kind_0 (g4 (x0 + Int.toNat x3) (2 : Nat)) (64 : Int)) (Go.Proofs.Ythgagehgiooklaa.G.r_kind_0 (g4 (x0 + Int.toNat x3) (3 : Nat)) (9 : Int))).h))]))))
 (.no))
 (.no))
 (B_NvmApart_9_s0 x0 x1 x2 x3 n4 g4 h4 x5 x6 x7 x8 n9 g9 h9)))))
 (.no)))
 (.no))
 (.no))
 (.ok (.exit 0, [])))
 (.ok (.exit 0, []))
noncomputable def y_NvmApart_9 : Nat → Option Nat := (syOf3 [35, 38, 43, 49, 53, 99, 104, 63, 71, 78, 86] [] [])
noncomputable def BL_NvmApart_9 (l : List At) : Tr (Ex × List At) := B_NvmApart_9 (aN l 0) (aN l 1) (aI l 2) (aI l 3) (aRn l 4) (aRg l 4) (aMh l 4 5 1) (aB l 5) (aB l 6) (aI l 7) (aI l 8) (aRn l 9) (aRg l 9) (aMh l 9 16 2)
theorem eB_NvmApart_9 (l : List At) : (exec Try.prog Γ_S13 y_NvmApart_9 noLoops 100 (loopAt Try.f8 9) ⟨mkV lsh_NvmApart_9 l, mkH lsh_NvmApart_9 l⟩).bind (leafL 2 xs_NvmApart_9) = BL_NvmApart_9 l := by kernel_rfl
/- by hand: O_NvmApart_9 (x0 : Nat) (x1 : Nat) (x2 : Int) (x3 : Int) (n4 : Nat) (g4 : Nat → Nat → Int) (h4 : Nat → Nat → Int) (x5 : Bool) (x6 : Bool) (x7 : Int) (x8 : Int) (n9 : Nat) (g9 : Nat → Nat → Int) (h9 : Nat → Nat → Int) : Tr (Ex × List At); OL_NvmApart_9 (l) := O_NvmApart_9 (aN l 0) (aN l 1) (aI l 2) (aI l 3) (aRn l 4) (aRg l 4) (aMh l 4 5 1) (aB l 5) (aB l 6) (aI l 7) (aI l 8) (aRn l 9) (aRg l 9) (aMh l 9 16 2); μ_NvmApart_9 : List At → Nat; rd_NvmApart_9 : ∀ l r, (OL_NvmApart_9 l).val = some r → RoundA BL_NvmApart_9 OL_NvmApart_9 μ_NvmApart_9 l r -/

end Go.Proofs.Ythgagehgiooklaa.G
end

/-
  The loop of NvmApart: calls to other lines.
-/
section
namespace Go.Proofs.Ythgagehgiooklaa.G
open Go Go.AM Go.Proofs

theorem stM_other {m : Mem} {i w v : Int} {j : Nat} (h : j ≠ i.toNat) : (m.stM i w v).g j = m.g j := by
  unfold Mem.stM
  cases m.bad i w with
  | true => rfl
  | false => cases m.po with
    | true => rfl
    | false => exact updR_ne h
theorem flM_other {m : Mem} {c i : Int} {j : Nat} (h : j ≠ i.toNat) : (m.flM c i).g j = m.g j := by
  unfold Mem.flM
  cases m.bad i c with
  | true => rfl
  | false => cases m.po with
    | true => rfl
    | false => exact updR_ne h
theorem evM_other {m : Mem} {i x : Int} {j : Nat} (h : j ≠ i.toNat) : (m.evM i x).g j = m.g j := by
  unfold Mem.evM
  cases m.ebad i x with
  | true => rfl
  | false => cases m.off with
    | true => rfl
    | false => exact updR_ne h
theorem feM_idle {m : Mem} {c : Int} {j : Nat} (hr : RowOk (m.g j) (m.h j)) (h : m.g j 16 = 0) : (m.feM c).g j = m.g j := by
  unfold Mem.feM
  cases hb : corB c with
  | true => rfl
  | false => cases m.po with
    | true => rfl
    | false =>
      have hc := corB_no hb
      have := hr.2.2.1 (17 + c.toNat) (by omega) (by omega)
      show feG m.n m.g m.h (17 + c.toNat) 0 j = _
      unfold feG
      rw [if_neg (fun hh => by omega)]
theorem crM_idle {m : Mem} {q : Nat → Int} {kn j : Nat} (h : m.g j 16 = 0) : (m.crM q kn).g j = m.g j := by
  show crG m.n m.g m.h q kn 0 j = _
  unfold crG
  rw [if_neg (fun hh => by omega)]

/-- The line 7 has the one word. -/
structure ApInv (v : Int) (K : Int) (m : Mem) : Prop where
  on : m.on
  n : m.n = 64
  ok : m.Ok K
  cnt : m.g 7 16 = 0
  now : ∀ c, c < 8 → m.g 7 c = if c = 3 then v else 0

theorem ApInv.same {v K K' : Int} {m M : Mem} (h : ApInv v K m) (h1 : M.on) (h2 : M.n = m.n) (h3 : M.Ok K') (h4 : M.g 7 = m.g 7) : ApInv v K' M :=
  ⟨h1, h2.trans h.n, h3, by rw [h4]; exact h.cnt, fun c hc => by rw [h4]; exact h.now c hc⟩

def cmp7 (m : Mem) (v : Int) : Bool := m.ldW 7 0 == 0 && (m.ldW 7 1 == 0 && (m.ldW 7 2 == 0 && (m.ldW 7 3 == v && (m.ldW 7 4 == 0 && (m.ldW 7 5 == 0 && (m.ldW 7 6 == 0 && (m.ldW 7 7 == 0 && true)))))))

theorem cmp7_yes {v K : Int} {m : Mem} (h : ApInv v K m) : cmp7 m v = true := by
  have hi : (0 : Int) ≤ 7 ∧ (7 : Int) < m.n := ⟨by decide, by rw [h.n]; decide⟩
  have e : ∀ c, c < 8 → m.ldW 7 c = if c = 3 then v else 0 := fun c hc => (ldW_on h.on hi).trans (h.now c hc)
  unfold cmp7
  rw [e 0 (by omega), e 1 (by omega), e 2 (by omega), e 3 (by omega), e 4 (by omega), e 5 (by omega), e 6 (by omega), e 7 (by omega)]
  simp

def preAp (x1 : Nat) (v x3 : Int) (G H : Nat → Nat → Int) (m : Mem) : Prop :=
  0 ≤ x3 ∧ x3 ≤ 80 ∧ ApInv v (800000 + x3) m ∧ (∀ i c, i < x1 → c < 4 → -9223372036854775808 ≤ G i c ∧ G i c ≤ 9223372036854775807) ∧ ∀ i, i < x1 → KeepOk (fun j => H i ((0 + j) * 1 + 0)) (G i 5).toNat

noncomputable def O_NvmApart_9 (x0 x1 : Nat) (x2 x3 : Int) (g4 h4 : Nat → Nat → Int) (m : Mem) : Tr (Ex × List At) :=
  .br 0 (pdec (preAp x1 x2 x3 (fun i => g4 (x0 + i)) (fun i => h4 (x0 + i)) m)) (.ok (.exit 0, [])) .no
noncomputable def OL_NvmApart_9 (l : List At) : Tr (Ex × List At) := O_NvmApart_9 (aN l 0) (aN l 1) (aI l 2) (aI l 3) (aRg l 4) (aMh l 4 5 1) ⟨aRn l 9, aRg l 9, aMh l 9 16 2, aB l 5, aB l 6, aI l 7, aI l 8⟩
def μ_NvmApart_9 (l : List At) : Nat := (80 - aI l 3).toNat

theorem rd_NvmApart_9 : ∀ l r, (OL_NvmApart_9 l).val = some r → RoundS BL_NvmApart_9 OL_NvmApart_9 μ_NvmApart_9 l r := by
  intro l r hh
  unfold OL_NvmApart_9 at hh
  obtain ⟨hc, h⟩ := guard_val hh
  clear hh
  obtain ⟨c0, c1, c2, c3, c4⟩ := of_pdec hc
  have hr := val_ok h
  unfold RoundS BL_NvmApart_9 B_NvmApart_9 B_NvmApart_9_s0
  generalize hx0 : aN l 0 = x0 at *
  generalize hx1 : aN l 1 = x1 at *
  generalize hx2 : aI l 2 = x2 at *
  generalize hx3 : aI l 3 = x3 at *
  generalize hg4 : aRg l 4 = g4 at *
  generalize hh4 : aMh l 4 5 1 = h4 at *
  refine brD (fun h1 => brD (fun h2 => brW (fun _ => ?_) (fun hh => by exfalso; omega)) (fun h2 => ?_)) (fun h1 => ?_)
  · obtain ⟨i, rfl⟩ := Int.eq_ofNat_of_zero_le c0
    rw [Int.toNat_natCast]
    have hw : IntKind.i64.wrap ((i : Int) + 1) = (i : Int) + 1 := wrap_i64 (by omega) (by omega)
    have hμ : (80 - ((i : Int) + 1)).toNat < μ_NvmApart_9 l := by unfold μ_NvmApart_9; rw [hx3]; omega
    have hrow : ∀ c, c < 4 → -9223372036854775808 ≤ g4 (x0 + i) c ∧ g4 (x0 + i) c ≤ 9223372036854775807 := fun c hcc => c3 i c (by omega) hcc
    have hkeep : KeepOk (fun j => h4 (x0 + i) ((0 + j) * 1 + 0)) (g4 (x0 + i) 5).toNat := c4 i (by omega)
    have hM0 : ApInv x2 (800000 + i) (Mem.mk (aRn l 9) (aRg l 9) (aMh l 9 16 2) (aB l 5) (aB l 6) (aI l 7) (aI l 8)) := c2
    generalize hmm : Mem.mk (aRn l 9) (aRg l 9) (aMh l 9 16 2) (aB l 5) (aB l 6) (aI l 7) (aI l 8) = m at hM0
    have ok0 := pdec_yes (hM0.ok.mono (by omega : 800000 + (i : Int) ≤ 900000))
    have hr7 := (hM0.ok.2.2.2.2 7 (by rw [hM0.n]; decide)).1
    obtain ⟨q1, q2, q3⟩ := kind_in (n := 5) (hrow 0 (by omega)).1 (hrow 0 (by omega)).2 (by decide) (by decide)
    obtain ⟨a0, a1, a2⟩ := kind_in (n := 8) (hrow 1 (by omega)).1 (hrow 1 (by omega)).2 (by decide) (by decide)
    obtain ⟨b0, b1, b2⟩ := kind_in (n := 64) (hrow 2 (by omega)).1 (hrow 2 (by omega)).2 (by decide) (by decide)
    obtain ⟨d0, d1, d2⟩ := kind_in (n := 8) (hrow 3 (by omega)).1 (hrow 3 (by omega)).2 (by decide) (by decide)
    obtain ⟨e0, e1, e2⟩ := kind_in (n := 9) (hrow 3 (by omega)).1 (hrow 3 (by omega)).2 (by decide) (by decide)
    rw [hw]
    have go : ∀ (M' : Mem) (b : Bool) (dead : Tr (Ex × List At)), ApInv x2 (800000 + i + 1) M' → b = !cmp7 M' x2 →
        (Tr.br 99 (M'.ldC 7 != 0) (.ok (Ex.ret, [At.b false])) (.br 104 b (.ok (.ret, [.b false]))
            (.ok (.normal, [.n x0, .n x1, .i x2, .i ((i : Int) + 1), .q (aRn l 4) g4 5 1 h4, .b M'.off, .b M'.burns, .i M'.left, .i M'.steps, .q M'.n M'.g 16 2 M'.h])))).sat fun p => (p.1 = .normal ∧ ∃ l2 r', AtsEq p.2 l2 ∧ μ_NvmApart_9 l2 < μ_NvmApart_9 l ∧ (OL_NvmApart_9 l2).val = some r' ∧ r'.1 = r.1 ∧ AtsEq r'.2 r.2) ∨ (p.1 ≠ .normal ∧ r.1 = p.1 ∧ AtsEq p.2 r.2) := by
      intro M' b _ hM hb
      have hcd : M'.ldC 7 = 0 := ldC_on hM.on ⟨by decide, by rw [hM.n]; decide⟩
      have hq : preAp x1 x2 ((i : Int) + 1) (fun i => g4 (x0 + i)) (fun i => h4 (x0 + i)) M' := ⟨by omega, by omega, ⟨hM.on, hM.n, hM.ok.mono (by omega), hM.cnt, hM.now⟩, c3, c4⟩
      exact brF (by rw [hcd]; rfl) (brF (by rw [hb, cmp7_yes hM]; rfl) (on_ _ r (AtsEq.refl _) hμ ((br_t (g := 0) (pdec_yes hq)).trans h) rfl (AtsEq.refl _)))
    have iSt : ∀ (j w v : Int), j.toNat ≠ 7 → ApInv x2 (800000 + i + 1) (m.stM j w v) := fun j w v hj => hM0.same (stM_on' hM0.on) stM_n (stM_ok hM0.ok (by omega)) (stM_other (fun e => hj e.symm))
    have iFl : ∀ (c j : Int), j.toNat ≠ 7 → ApInv x2 (800000 + i + 1) (m.flM c j) := fun c j hj => hM0.same (flM_on' hM0.on) flM_n (flM_ok hM0.ok) (flM_other (fun e => hj e.symm))
    have iFe : ∀ (c : Int), ApInv x2 (800000 + i + 1) (m.feM c) := fun c => hM0.same (feM_on' hM0.on) feM_n (feM_ok hM0.ok) (feM_idle hr7 hM0.cnt)
    have iEv : ∀ (j x : Int), j.toNat ≠ 7 → ApInv x2 (800000 + i + 1) (m.evM j x) := fun j x hj => hM0.same (evM_on' hM0.on) evM_n ((evM_ok hM0.ok).mono (by omega)) (evM_other (fun e => hj e.symm))
    have iCr : ∀ (q : Nat → Int) (kn : Nat), ApInv x2 (800000 + i + 1) (m.crM q kn) := fun q kn => hM0.same crM_on rfl ((crM_ok hM0.ok).mono (by omega)) (crM_idle hM0.cnt)
    subst hmm
    refine brT b0 (brQ (fun hl => ?_) (fun hl => ?_))
    · refine brT q1 (brQ (fun k0 => ?_) (fun k0 => brQ (fun k1 => ?_) (fun k1 => brQ (fun k2 => ?_) (fun k2 => brQ (fun k3 => ?_) (fun k3 => brQ (fun k4 => ?_) (fun k4 => by exfalso; omega))))))
      · exact brT d0 (brT ok0 (go _ _ .no (iSt 8 _ _ (by decide)) rfl))
      · exact brT a0 (brT ok0 (go _ _ .no (iFl _ 8 (by decide)) rfl))
      · exact brT a0 (brT ok0 (go _ _ .no (iFe _) rfl))
      · exact brT e0 (brT ok0 (go _ _ .no (iEv 8 _ (by decide)) rfl))
      · exact brT ok0 (brT (pdec_yes hkeep) (go _ _ .no (iCr _ _) rfl))
    · have hl7 : (r_kind_0 (g4 (x0 + i) 2) 64).toNat ≠ 7 := by omega
      refine brT q1 (brQ (fun k0 => ?_) (fun k0 => brQ (fun k1 => ?_) (fun k1 => brQ (fun k2 => ?_) (fun k2 => brQ (fun k3 => ?_) (fun k3 => brQ (fun k4 => ?_) (fun k4 => by exfalso; omega))))))
      · exact brT d0 (brT ok0 (go _ _ .no (iSt _ _ _ hl7) rfl))
      · exact brT a0 (brT ok0 (go _ _ .no (iFl _ _ hl7) rfl))
      · exact brT a0 (brT ok0 (go _ _ .no (iFe _) rfl))
      · exact brT e0 (brT ok0 (go _ _ .no (iEv _ _ hl7) rfl))
      · exact brT ok0 (brT (pdec_yes hkeep) (go _ _ .no (iCr _ _) rfl))
  all_goals
    subst hr
    exact out_ (by simp) rfl (AtsEq.refl _)
end Go.Proofs.Ythgagehgiooklaa.G
end

/-
  The plain law of NvmOf.
-/
section
namespace Go.Proofs.Ythgagehgiooklaa.G
open Go Go.AM Go.Proofs

def ofM (n0 : Nat) (g0 : Nat → Nat → Int) : Mem := ⟨n0, ofG 0 n0 0 g0 (fun _ _ => 0), fun _ _ => 0, false, false, 0, 0⟩
theorem ofM_hi (n0 : Nat) (g0 : Nat → Nat → Int) (j c : Nat) (hc : 16 ≤ c) : (ofM n0 g0).g j c = 0 := by
  show ofG 0 n0 0 g0 (fun _ _ => 0) j c = 0
  unfold ofG ofR
  by_cases h : 0 ≤ j ∧ j < n0
  · rw [if_pos h, if_neg (by omega)]
  · rw [if_neg h]
theorem ofM_ok (n0 : Nat) (g0 : Nat → Nat → Int) (hn : n0 ≤ 1073741824) : (ofM n0 g0).Ok 900000 := by
  refine ⟨fun hb => (nomatch hb), Int.le_refl _, by show (0 : Int) ≤ 900000; decide, hn, fun i _ => ⟨⟨?_, ?_, fun c h1 h2 => ?_, fun k hk => ?_⟩, ?_⟩⟩
  · rw [ofM_hi _ _ _ _ (by decide)]; exact Int.le_refl _
  · rw [ofM_hi _ _ _ _ (by decide)]; decide
  · rw [ofM_hi _ _ _ _ (by omega), ofM_hi _ _ _ _ (by decide)]; exact ⟨Int.le_refl _, Int.le_refl _⟩
  · rw [ofM_hi _ _ _ _ (by decide)] at hk; omega
  · rw [ofM_hi _ _ _ _ (by decide)]; exact Int.le_refl _
theorem ofM_sur (n0 : Nat) (g0 : Nat → Nat → Int) (i c : Nat) (hi : i < n0) (hc : c < 8) : (ofM n0 g0).g i (8 + c) = g0 i c := by
  show ofG 0 n0 0 g0 (fun _ _ => 0) i (8 + c) = g0 i c
  unfold ofG ofR
  rw [if_pos ⟨Nat.zero_le _, hi⟩, if_pos (by omega), if_neg (by omega), Nat.zero_add, Nat.add_sub_cancel_left]

theorem vc_NvmOf (n0 : Nat) (g0 : Nat → Nat → Int) (_b : n0 ≤ maxLen) (_w : ∀ (i c : Nat) (k : SK), i < n0 → [SK.n .u64, SK.n .u64, SK.n .u64, SK.n .u64, SK.n .u64, SK.n .u64, SK.n .u64, SK.n .u64][c]? = some k → wfS k (g0 i c)) (hz : n0 * 64 ≤ reachBytes) :
    (T_NvmOf n0 g0).sat fun r => r = [.b true] := by
  have hz : n0 * 64 ≤ 140737488351232 := hz
  have hN : ((0 + n0 : Nat) : Int).toNat = n0 := by omega
  unfold T_NvmOf T_NvmOf_s2 T_NvmOf_s1 T_NvmOf_s0 NvmOf_c3 NvmOf_c1 NvmOf_c0
  rw [hN, Nat.zero_add]
  have hq : (fun (j cc : Nat) => appG (fun (_ _ : Nat) => (0 : Int)) 0 (fun (j c : Nat) => g0 (0 + j) c) (0 + j) cc) = g0 := by
    funext j cc; simp [appG]
  rw [hq]
  refine brT (decide_eq_true (by omega)) ?_
  by_cases hin : (n0 : Int) < 64 ∨ (n0 : Int) > 1024
  · refine brT (decide_eq_true hin) ?_
    by_cases h64 : (n0 : Int) ≥ 64
    · refine brT (decide_eq_true h64) (brF ?_ (Tr.sat_ok.2 rfl))
      rw [decide_eq_false (by omega)]; rfl
    · exact brF (decide_eq_false h64) (brF rfl (Tr.sat_ok.2 rfl))
  · refine brF (decide_eq_false hin) (brT (pdec_yes ⟨Int.le_refl _, by omega, Int.le_refl _, Int.le_refl _, by show n0 ≤ 1073741824; omega⟩) (brT (decide_eq_true (by omega)) (brF ?_ ?_)))
    · rw [decide_eq_true (by omega)]; rfl
    · refine brT (pdec_yes ⟨Int.le_refl _, by omega, by omega⟩) ?_
      have hn0 : newM n0 = ⟨n0, fun _ _ => 0, fun _ _ => 0, false, false, 0, 0⟩ := rfl
      rw [hn0]
      dsimp only
      show (Tr.br 0 (pdec ((ofM n0 g0).Ok 900000)) _ _).sat _
      have ok := ofM_ok n0 g0 (by omega)
      have same : ∀ j, ((ofM n0 g0).crM (fun _ => 0) 0).g j = (ofM n0 g0).g j := fun j => crM_idle (ofM_hi n0 g0 j 16 (Nat.le_refl _))
      refine brT (pdec_yes ok) (brT (pdec_yes keepOk_nil) (brT (pdec_yes (crM_ok ok)) (brF ?_ (brT (pdec_yes ?_) (brT rfl (Tr.sat_ok.2 rfl))))))
      · show ((n0 : Int) != (n0 : Int)) = false
        simp
      · refine ⟨Int.le_refl _, Nat.le_refl _, ?_, fun i _ hi c hc8 => ?_⟩
        · show n0 ≤ 1152921504606846976; omega
        · have hi' : i < n0 := hi
          show suG n0 ((ofM n0 g0).crM (fun _ => 0) 0).g (0 + (0 + i)) c = g0 (0 + (0 + i)) c
          rw [Nat.zero_add, Nat.zero_add]
          unfold suG
          rw [if_pos ⟨hi', hc8⟩, same i, ofM_sur n0 g0 i c hi' hc8]
end Go.Proofs.Ythgagehgiooklaa.G
end

/-
  What functions of the seat compute, printed by a program from the explorer.
-/
import Derived.Test.YtpgfnccagiiknaaB6O
import Derived.KernelRfl
namespace Go.Proofs.Ytpgfnccagiiknaa.G
open Go Go.AM Go.Proofs
theorem f_CrcThree_5 : LoopF Try.prog 3 (loopAt Try.f6 5) (loopFn 3 lsh_CrcThree_5 xs_CrcThree_5 OL_CrcThree_5) :=
  loop_loc (sy := y_CrcThree_5) (fuel := 100) (Lp := noLoops) o_shown mixed (loopsOK_at (noLoops_ok _) 5) rfl eB_CrcThree_5 rd_CrcThree_5
def Lp_CrcThree_5 : Loops := Loops.set noLoops 5 (loopFn 3 lsh_CrcThree_5 xs_CrcThree_5 OL_CrcThree_5)
theorem lk_CrcThree_5 : LoopsFn Try.prog 3 Lp_CrcThree_5 Try.f6 := loopsFn_set (noLoops_ok _) (by kernel_rfl) f_CrcThree_5

/-! ### CrcThree -/

def ish_CrcThree : FSh := ⟨[.v false [.vw 0 1], .v false [.vw 1 1], .v false [.vw 2 1]], [.rows [.n .u8] false, .rows [.n .u8] false, .rows [.n .u8] false]⟩
def osh_CrcThree : FSh := ⟨[.v false [.k .b]], [.no, .no, .no]⟩
def CrcThree_c0 (n0 : Nat) (g0 : Nat → Nat → Int) (n1 : Nat) (g1 : Nat → Nat → Int) (n2 : Nat) (g2 : Nat → Nat → Int) : Nat := aN ([At.n (0 : Nat), At.n n1] ++ [] ++ ([At.r n1 g1] ++ [])) (0 : Nat)
def CrcThree_c1 (n0 : Nat) (g0 : Nat → Nat → Int) (n1 : Nat) (g1 : Nat → Nat → Int) (n2 : Nat) (g2 : Nat → Nat → Int) : Nat := aN ([At.n (0 : Nat), At.n n1] ++ [] ++ ([At.r n1 g1] ++ [])) (1 : Nat)
def CrcThree_c2 (n0 : Nat) (g0 : Nat → Nat → Int) (n1 : Nat) (g1 : Nat → Nat → Int) (n2 : Nat) (g2 : Nat → Nat → Int) : Nat := aRn ([At.n (0 : Nat), At.n n1] ++ [] ++ ([At.r n1 g1] ++ [])) (2 : Nat)
def CrcThree_c3 (n0 : Nat) (g0 : Nat → Nat → Int) (n1 : Nat) (g1 : Nat → Nat → Int) (n2 : Nat) (g2 : Nat → Nat → Int) : Int := (↑(aN [At.n (r_few_0 (CrcThree_c0 n0 g0 n1 g1 n2 g2) (CrcThree_c1 n0 g0 n1 g1 n2 g2) (CrcThree_c2 n0 g0 n1 g1 n2 g2) (aRg ([At.n (0 : Nat), At.n n1] ++ [] ++ ([At.r n1 g1] ++ [])) (2 : Nat))), At.n (r_few_1 (CrcThree_c0 n0 g0 n1 g1 n2 g2) (CrcThree_c1 n0 g0 n1 g1 n2 g2) (CrcThree_c2 n0 g0 n1 g1 n2 g2) (aRg ([At.n (0 : Nat), At.n n1] ++ [] ++ ([At.r n1 g1] ++ [])) (2 : Nat)))] ((0 : Nat) + (1 : Nat))) : Int)
def CrcThree_c4 (n0 : Nat) (g0 : Nat → Nat → Int) (n1 : Nat) (g1 : Nat → Nat → Int) (n2 : Nat) (g2 : Nat → Nat → Int) : Nat := aN ([At.n (0 : Nat), At.n n0] ++ [] ++ ([At.r n0 g0] ++ [])) (0 : Nat)
def CrcThree_c5 (n0 : Nat) (g0 : Nat → Nat → Int) (n1 : Nat) (g1 : Nat → Nat → Int) (n2 : Nat) (g2 : Nat → Nat → Int) : Nat := aN ([At.n (0 : Nat), At.n n0] ++ [] ++ ([At.r n0 g0] ++ [])) (1 : Nat)
def CrcThree_c6 (n0 : Nat) (g0 : Nat → Nat → Int) (n1 : Nat) (g1 : Nat → Nat → Int) (n2 : Nat) (g2 : Nat → Nat → Int) : Nat := aRn ([At.n (0 : Nat), At.n n0] ++ [] ++ ([At.r n0 g0] ++ [])) (2 : Nat)
def CrcThree_c7 (n0 : Nat) (g0 : Nat → Nat → Int) (n1 : Nat) (g1 : Nat → Nat → Int) (n2 : Nat) (g2 : Nat → Nat → Int) : Int := (↑(aN [At.n (r_few_0 (CrcThree_c4 n0 g0 n1 g1 n2 g2) (CrcThree_c5 n0 g0 n1 g1 n2 g2) (CrcThree_c6 n0 g0 n1 g1 n2 g2) (aRg ([At.n (0 : Nat), At.n n0] ++ [] ++ ([At.r n0 g0] ++ [])) (2 : Nat))), At.n (r_few_1 (CrcThree_c4 n0 g0 n1 g1 n2 g2) (CrcThree_c5 n0 g0 n1 g1 n2 g2) (CrcThree_c6 n0 g0 n1 g1 n2 g2) (aRg ([At.n (0 : Nat), At.n n0] ++ [] ++ ([At.r n0 g0] ++ [])) (2 : Nat)))] ((0 : Nat) + (1 : Nat))) : Int)
def CrcThree_c8 (n0 : Nat) (g0 : Nat → Nat → Int) (n1 : Nat) (g1 : Nat → Nat → Int) (n2 : Nat) (g2 : Nat → Nat → Int) : Int := if (↑(r_few_1 (0 : Nat) n1 n1 g1) : Int) < (↑(r_few_1 (0 : Nat) n0 n0 g0) : Int) then (↑(r_few_1 (0 : Nat) n1 n1 g1) : Int) else (↑(r_few_1 (0 : Nat) n0 n0 g0) : Int)
def CrcThree_c9 (n0 : Nat) (g0 : Nat → Nat → Int) (n1 : Nat) (g1 : Nat → Nat → Int) (n2 : Nat) (g2 : Nat → Nat → Int) : Nat := aN ([At.n (0 : Nat), At.n n2] ++ [] ++ ([At.r n2 g2] ++ [])) (0 : Nat)
def CrcThree_c10 (n0 : Nat) (g0 : Nat → Nat → Int) (n1 : Nat) (g1 : Nat → Nat → Int) (n2 : Nat) (g2 : Nat → Nat → Int) : Nat := aN ([At.n (0 : Nat), At.n n2] ++ [] ++ ([At.r n2 g2] ++ [])) (1 : Nat)
def CrcThree_c11 (n0 : Nat) (g0 : Nat → Nat → Int) (n1 : Nat) (g1 : Nat → Nat → Int) (n2 : Nat) (g2 : Nat → Nat → Int) : Nat := aRn ([At.n (0 : Nat), At.n n2] ++ [] ++ ([At.r n2 g2] ++ [])) (2 : Nat)
def CrcThree_c12 (n0 : Nat) (g0 : Nat → Nat → Int) (n1 : Nat) (g1 : Nat → Nat → Int) (n2 : Nat) (g2 : Nat → Nat → Int) : Nat := Int.toNat (if (↑(r_few_1 (0 : Nat) n2 n2 g2) : Int) < (CrcThree_c8 n0 g0 n1 g1 n2 g2) then (↑(r_few_1 (0 : Nat) n2 n2 g2) : Int) else (CrcThree_c8 n0 g0 n1 g1 n2 g2))
def CrcThree_c13 (n0 : Nat) (g0 : Nat → Nat → Int) (n1 : Nat) (g1 : Nat → Nat → Int) (n2 : Nat) (g2 : Nat → Nat → Int) : Nat := (CrcThree_c12 n0 g0 n1 g1 n2 g2) - (0 : Nat)
def CrcThree_c14 (n0 : Nat) (g0 : Nat → Nat → Int) (n1 : Nat) (g1 : Nat → Nat → Int) (n2 : Nat) (g2 : Nat → Nat → Int) : Int := if (↑(r_few_1 (0 : Nat) n2 n2 g2) : Int) < (CrcThree_c8 n0 g0 n1 g1 n2 g2) then (↑(r_few_1 (0 : Nat) n2 n2 g2) : Int) else (CrcThree_c8 n0 g0 n1 g1 n2 g2)
def T_CrcThree (n0 : Nat) (g0 : Nat → Nat → Int) (n1 : Nat) (g1 : Nat → Nat → Int) (n2 : Nat) (g2 : Nat → Nat → Int) : Tr (List At) :=
 .br 0 (true)
 (.br 0 (ok_few (0 : Nat) n0 n0 g0)
 (.br 0 (ok_few (0 : Nat) n1 n1 g1)
 (.br 0 (ok_few (0 : Nat) n2 n2 g2)
 (.br 0 (thOk n0 n1 n2 (CrcThree_c14 n0 g0 n1 g1 n2 g2) (0 : Int) (0 : Nat))
 (.br 49 (true && decide ((0 : Int) ≤ (CrcThree_c14 n0 g0 n1 g1 n2 g2)) && decide ((CrcThree_c14 n0 g0 n1 g1 n2 g2) ≤ (↑n0 : Int)))
 (.br 0 (ok_crcSum (CrcThree_c13 n0 g0 n1 g1 n2 g2) fun (j cc : Nat) => g0 ((0 : Nat) + j) cc)
 (.br 53 (true && decide ((0 : Int) ≤ (CrcThree_c14 n0 g0 n1 g1 n2 g2)) && decide ((CrcThree_c14 n0 g0 n1 g1 n2 g2) ≤ (↑n1 : Int)))
 (.br 0 (ok_crcSum (CrcThree_c13 n0 g0 n1 g1 n2 g2) fun (j cc : Nat) => g1 ((0 : Nat) + j) cc)
 (.br 58 (true && decide ((0 : Int) ≤ (CrcThree_c14 n0 g0 n1 g1 n2 g2)) && decide ((CrcThree_c14 n0 g0 n1 g1 n2 g2) ≤ (↑n2 : Int)))
 (.br 0 (ok_crcSum (CrcThree_c13 n0 g0 n1 g1 n2 g2) fun (j cc : Nat) => g2 ((0 : Nat) + j) cc)
 (.br 0 (ok_crcSum (CrcThree_c12 n0 g0 n1 g1 n2 g2) fun (j cc : Nat) => three (0 : Nat) (0 : Nat) (0 : Nat) g0 g1 g2 (0 : Nat) (fun (x x_1 : Nat) => (0 : Int)) ((0 : Nat) + j) cc)
 (.ok [(.b (bits BinOp.xor IntKind.u32 (bits BinOp.xor IntKind.u32 (r_crcSum_0 (CrcThree_c13 n0 g0 n1 g1 n2 g2) fun (j cc : Nat) => g0 ((0 : Nat) + j) cc) (r_crcSum_0 (CrcThree_c13 n0 g0 n1 g1 n2 g2) fun (j cc : Nat) => g1 ((0 : Nat) + j) cc)) (r_crcSum_0 (CrcThree_c13 n0 g0 n1 g1 n2 g2) fun (j cc : Nat) => g2 ((0 : Nat) + j) cc) == r_crcSum_0 (CrcThree_c12 n0 g0 n1 g1 n2 g2) fun (j cc : Nat) => three (0 : Nat) (0 : Nat) (0 : Nat) g0 g1 g2 (0 : Nat) (fun (x x_1 : Nat) => (0 : Int)) ((0 : Nat) + j) cc))])
 (.no))
 (.no))
 (.no))
 (.no))
 (.no))
 (.no))
 (.no))
 (.no))
 (.no))
 (.no))
 (.no))
 (.no)
def y_CrcThree : Nat → Option Nat := syOf3 [49, 53, 58] [] []
def TL_CrcThree (l : List At) : Tr (List At) := T_CrcThree (aRn l 0) (aRg l 0) (aRn l 1) (aRg l 1) (aRn l 2) (aRg l 2)
theorem e_CrcThree (l : List At) : (call Try.prog Γ_shown y_CrcThree Lp_CrcThree_5 100 Try.f6 (mkV ish_CrcThree l) (mkH ish_CrcThree l)).bind (leafO ish_CrcThree.hp.length ⟨[.v false [.k .b]], List.replicate ish_CrcThree.hp.length .no⟩) = TL_CrcThree l := by kernel_rfl

end Go.Proofs.Ytpgfnccagiiknaa.G

/-
  What functions of the seat compute, printed by a program from the explorer.
-/
import Derived.Test.YtpgfnccagiiknaaG2
import Derived.KernelRfl
namespace Go.Proofs.Ytpgfnccagiiknaa.G
open Go Go.AM Go.Proofs
/-! ### CrcParts -/

def ish_CrcParts : FSh := ⟨[.v false [.vw 0 1], .v false [.vw 1 1]], [.rows [.n .u8] false, .rows [.n .u8] false]⟩
def osh_CrcParts : FSh := ⟨[.v false [.k .b]], [.no, .no]⟩
def T_CrcParts (n0 : Nat) (g0 : Nat → Nat → Int) (n1 : Nat) (g1 : Nat → Nat → Int) : Tr (List At) :=
 .br 0 (true)
 (.br 0 (ok_few (0 : Nat) n0 n0 g0)
 (.br 0 (ok_few (0 : Nat) n1 n1 g1)
 (.br 14 (decide ((0 : Nat) + r_few_1 (0 : Nat) n0 n0 g0 ≤ (1073741824 : Nat)))
 (.br 16 (decide ((0 : Nat) + r_few_1 (0 : Nat) n0 n0 g0 + r_few_1 (0 : Nat) n1 n1 g1 ≤ (1073741824 : Nat)))
 (.br 0 (ok_crcSum (r_few_1 (0 : Nat) n0 n0 g0) fun (j cc : Nat) => g0 (r_few_0 (0 : Nat) n0 n0 g0 + j) cc)
 (.br 0 (ok_crcMore (r_crcSum_0 (r_few_1 (0 : Nat) n0 n0 g0) fun (j cc : Nat) => g0 (r_few_0 (0 : Nat) n0 n0 g0 + j) cc)   (r_few_1 (0 : Nat) n1 n1 g1) fun (j cc : Nat) => g1 (r_few_0 (0 : Nat) n1 n1 g1 + j) cc)
 (.br 0 (ok_crcSum ((0 : Nat) + r_few_1 (0 : Nat) n0 n0 g0 + r_few_1 (0 : Nat) n1 n1 g1) fun (j cc : Nat) =>   appG (appG (fun (x x_1 : Nat) => (0 : Int)) (0 : Nat) fun (j c : Nat) => g0 (r_few_0 (0 : Nat) n0 n0 g0 + j) c)     ((0 : Nat) + r_few_1 (0 : Nat) n0 n0 g0) (fun (j c : Nat) => g1 (r_few_0 (0 : Nat) n1 n1 g1 + j) c) ((0 : Nat) + j)     cc)
 (.br 27 ((r_crcMore_0 (r_crcSum_0 (r_few_1 (0 : Nat) n0 n0 g0) fun (j cc : Nat) => g0 (r_few_0 (0 : Nat) n0 n0 g0 + j) cc)     (r_few_1 (0 : Nat) n1 n1 g1) fun (j cc : Nat) => g1 (r_few_0 (0 : Nat) n1 n1 g1 + j) cc) ==   r_crcSum_0 ((0 : Nat) + r_few_1 (0 : Nat) n0 n0 g0 + r_few_1 (0 : Nat) n1 n1 g1) fun (j cc : Nat) =>     appG (appG (fun (x x_1 : Nat) => (0 : Int)) (0 : Nat) fun (j c : Nat) => g0 (r_few_0 (0 : Nat) n0 n0 g0 + j) c)       ((0 : Nat) + r_few_1 (0 : Nat) n0 n0 g0) (fun (j c : Nat) => g1 (r_few_0 (0 : Nat) n1 n1 g1 + j) c)       ((0 : Nat) + j) cc)
 (.br 0 (ok_crcSum ((0 : Nat) + r_few_1 (0 : Nat) n0 n0 g0 + r_few_1 (0 : Nat) n1 n1 g1) fun (j cc : Nat) =>   appG (appG (fun (x x_1 : Nat) => (0 : Int)) (0 : Nat) fun (j c : Nat) => g0 (r_few_0 (0 : Nat) n0 n0 g0 + j) c)     ((0 : Nat) + r_few_1 (0 : Nat) n0 n0 g0) (fun (j c : Nat) => g1 (r_few_0 (0 : Nat) n1 n1 g1 + j) c) ((0 : Nat) + j)     cc)
 (.br 0 (ok_crcMore   (r_crcSum_0 ((0 : Nat) + r_few_1 (0 : Nat) n0 n0 g0 + r_few_1 (0 : Nat) n1 n1 g1) fun (j cc : Nat) =>     appG (appG (fun (x x_1 : Nat) => (0 : Int)) (0 : Nat) fun (j c : Nat) => g0 (r_few_0 (0 : Nat) n0 n0 g0 + j) c)       ((0 : Nat) + r_few_1 (0 : Nat) n0 n0 g0) (fun (j c : Nat) => g1 (r_few_0 (0 : Nat) n1 n1 g1 + j) c)       ((0 : Nat) + j) cc)   (0 : Nat) fun (x x_1 : Nat) => (0 : Int))
 (.br 0 (ok_crcSum ((0 : Nat) + r_few_1 (0 : Nat) n0 n0 g0 + r_few_1 (0 : Nat) n1 n1 g1) fun (j cc : Nat) =>   appG (appG (fun (x x_1 : Nat) => (0 : Int)) (0 : Nat) fun (j c : Nat) => g0 (r_few_0 (0 : Nat) n0 n0 g0 + j) c)     ((0 : Nat) + r_few_1 (0 : Nat) n0 n0 g0) (fun (j c : Nat) => g1 (r_few_0 (0 : Nat) n1 n1 g1 + j) c) ((0 : Nat) + j)     cc)
 (.br 35 ((r_crcMore_0     (r_crcSum_0 ((0 : Nat) + r_few_1 (0 : Nat) n0 n0 g0 + r_few_1 (0 : Nat) n1 n1 g1) fun (j cc : Nat) =>       appG (appG (fun (x x_1 : Nat) => (0 : Int)) (0 : Nat) fun (j c : Nat) => g0 (r_few_0 (0 : Nat) n0 n0 g0 + j) c)         ((0 : Nat) + r_few_1 (0 : Nat) n0 n0 g0) (fun (j c : Nat) => g1 (r_few_0 (0 : Nat) n1 n1 g1 + j) c)         ((0 : Nat) + j) cc)     (0 : Nat) fun (x x_1 : Nat) => (0 : Int)) ==   r_crcSum_0 ((0 : Nat) + r_few_1 (0 : Nat) n0 n0 g0 + r_few_1 (0 : Nat) n1 n1 g1) fun (j cc : Nat) =>     appG (appG (fun (x x_1 : Nat) => (0 : Int)) (0 : Nat) fun (j c : Nat) => g0 (r_few_0 (0 : Nat) n0 n0 g0 + j) c)       ((0 : Nat) + r_few_1 (0 : Nat) n0 n0 g0) (fun (j c : Nat) => g1 (r_few_0 (0 : Nat) n1 n1 g1 + j) c)       ((0 : Nat) + j) cc)
 (.br 0 (ok_crcMore (0 : Int) (r_few_1 (0 : Nat) n1 n1 g1) fun (j cc : Nat) => g1 (r_few_0 (0 : Nat) n1 n1 g1 + j) cc)
 (.br 0 (ok_crcSum (r_few_1 (0 : Nat) n1 n1 g1) fun (j cc : Nat) => g1 (r_few_0 (0 : Nat) n1 n1 g1 + j) cc)
 (.ok [(.b ((r_crcMore_0 (0 : Int) (r_few_1 (0 : Nat) n1 n1 g1) fun (j cc : Nat) => g1 (r_few_0 (0 : Nat) n1 n1 g1 + j) cc) ==   r_crcSum_0 (r_few_1 (0 : Nat) n1 n1 g1) fun (j cc : Nat) => g1 (r_few_0 (0 : Nat) n1 n1 g1 + j) cc))])
 (.no))
 (.no))
 (.ok [(.b (false))]))
 (.no))
 (.no))
 (.no))
 (.ok [(.b (false))]))
 (.no))
 (.no))
 (.no))
 (.no))
 (.no))
 (.no))
 (.no))
 (.no)
def y_CrcParts : Nat → Option Nat := syOf3 [14, 16, 27, 35] [] []
def TL_CrcParts (l : List At) : Tr (List At) := T_CrcParts (aRn l 0) (aRg l 0) (aRn l 1) (aRg l 1)
theorem e_CrcParts (l : List At) : (call Try.prog Γ_shown y_CrcParts noLoops 100 Try.f4 (mkV ish_CrcParts l) (mkH ish_CrcParts l)).bind (leafO ish_CrcParts.hp.length ⟨[.v false [.k .b]], List.replicate ish_CrcParts.hp.length .no⟩) = TL_CrcParts l := by kernel_rfl

end Go.Proofs.Ytpgfnccagiiknaa.G

/-
  What functions of the seat compute, printed by a program from the explorer.
-/
import Derived.Test.YtpgfnccagiiknaaG2
import Derived.KernelRfl
namespace Go.Proofs.Ytpgfnccagiiknaa.G
open Go Go.AM Go.Proofs
/-! ### CrcSums -/

def ish_CrcSums : FSh := ⟨[.v false [.vw 0 1], .v false [.k (.n .u32)]], [.rows [.n .u8] false]⟩
def osh_CrcSums : FSh := ⟨[.v false [.k .b]], [.no]⟩
def T_CrcSums (x0 : Int) (n1 : Nat) (g1 : Nat → Nat → Int) : Tr (List At) :=
 .br 0 (true)
 (.br 0 (ok_few (0 : Nat) n1 n1 g1)
 (.br 12 (decide ((0 : Nat) + r_few_1 (0 : Nat) n1 n1 g1 ≤ (1073741824 : Nat)))
 (.br 0 (ok_crcSum ((0 : Nat) + r_few_1 (0 : Nat) n1 n1 g1) fun (j cc : Nat) =>   appG (fun (x x_1 : Nat) => (0 : Int)) (0 : Nat) (fun (j c : Nat) => g1 (r_few_0 (0 : Nat) n1 n1 g1 + j) c)     ((0 : Nat) + j) cc)
 (.br 0 (ok_refSum (r_few_1 (0 : Nat) n1 n1 g1) fun (j cc : Nat) => g1 (r_few_0 (0 : Nat) n1 n1 g1 + j) cc)
 (.br 21 ((r_crcSum_0 ((0 : Nat) + r_few_1 (0 : Nat) n1 n1 g1) fun (j cc : Nat) =>     appG (fun (x x_1 : Nat) => (0 : Int)) (0 : Nat) (fun (j c : Nat) => g1 (r_few_0 (0 : Nat) n1 n1 g1 + j) c)       ((0 : Nat) + j) cc) ==   r_refSum_0 (r_few_1 (0 : Nat) n1 n1 g1) fun (j cc : Nat) => g1 (r_few_0 (0 : Nat) n1 n1 g1 + j) cc)
 (.br 0 (ok_crcMore x0 ((0 : Nat) + r_few_1 (0 : Nat) n1 n1 g1) fun (j cc : Nat) =>   appG (fun (x x_1 : Nat) => (0 : Int)) (0 : Nat) (fun (j c : Nat) => g1 (r_few_0 (0 : Nat) n1 n1 g1 + j) c)     ((0 : Nat) + j) cc)
 (.br 0 (ok_refMore x0 (r_few_1 (0 : Nat) n1 n1 g1) fun (j cc : Nat) => g1 (r_few_0 (0 : Nat) n1 n1 g1 + j) cc)
 (.br 30 ((r_crcMore_0 x0 ((0 : Nat) + r_few_1 (0 : Nat) n1 n1 g1) fun (j cc : Nat) =>     appG (fun (x x_1 : Nat) => (0 : Int)) (0 : Nat) (fun (j c : Nat) => g1 (r_few_0 (0 : Nat) n1 n1 g1 + j) c)       ((0 : Nat) + j) cc) ==   r_refMore_0 x0 (r_few_1 (0 : Nat) n1 n1 g1) fun (j cc : Nat) => g1 (r_few_0 (0 : Nat) n1 n1 g1 + j) cc)
 (.ok [(.b (List.map     (fun (j : Nat) =>       UInt8.ofNat         (Int.toNat           (appG (fun (x x_1 : Nat) => (0 : Int)) (0 : Nat) (fun (j c : Nat) => g1 (r_few_0 (0 : Nat) n1 n1 g1 + j) c)             ((0 : Nat) + j) (0 : Nat))))     (List.range ((0 : Nat) + r_few_1 (0 : Nat) n1 n1 g1)) ==   List.map (fun (j : Nat) => UInt8.ofNat (Int.toNat (g1 (r_few_0 (0 : Nat) n1 n1 g1 + j) (0 : Nat))))     (List.range (r_few_1 (0 : Nat) n1 n1 g1))))])
 (.ok [(.b (false))]))
 (.no))
 (.no))
 (.ok [(.b (false))]))
 (.no))
 (.no))
 (.no))
 (.no))
 (.no)
def y_CrcSums : Nat → Option Nat := syOf3 [12, 21, 30] [] []
def TL_CrcSums (l : List At) : Tr (List At) := T_CrcSums (aI l 0) (aRn l 1) (aRg l 1)
theorem e_CrcSums (l : List At) : (call Try.prog Γ_shown y_CrcSums noLoops 100 Try.f3 (mkV ish_CrcSums l) (mkH ish_CrcSums l)).bind (leafO ish_CrcSums.hp.length ⟨[.v false [.k .b]], List.replicate ish_CrcSums.hp.length .no⟩) = TL_CrcSums l := by kernel_rfl

end Go.Proofs.Ytpgfnccagiiknaa.G

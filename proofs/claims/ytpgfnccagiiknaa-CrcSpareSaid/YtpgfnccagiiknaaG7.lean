/-
  What functions of the seat compute, printed by a program from the explorer.
-/
import Derived.Test.YtpgfnccagiiknaaG2
import Derived.KernelRfl
namespace Go.Proofs.Ytpgfnccagiiknaa.G
open Go Go.AM Go.Proofs
/-! ### CrcSpare -/

def ish_CrcSpare : FSh := ⟨[.v false [.vw 0 1], .v false [.vw 1 1]], [.rows [.n .u8] false, .rows [.n .u8] false]⟩
def osh_CrcSpare : FSh := ⟨[.v false [.k .b]], [.no, .no]⟩
def T_CrcSpare (n0 : Nat) (g0 : Nat → Nat → Int) (n1 : Nat) (g1 : Nat → Nat → Int) : Tr (List At) :=
 .br 0 (true)
 (.br 0 (ok_few (0 : Nat) n0 n0 g0)
 (.br 0 (ok_few (0 : Nat) n1 n1 g1)
 (.br 15 (decide ((0 : Nat) + r_few_1 (0 : Nat) n0 n0 g0 ≤ (1073741824 : Nat)))
 (.br 17 (decide ((0 : Nat) + r_few_1 (0 : Nat) n0 n0 g0 + r_few_1 (0 : Nat) n1 n1 g1 ≤ (1073741824 : Nat)))
 (.br 21 (true && decide ((0 : Int) ≤ (↑(r_few_1 (0 : Nat) n0 n0 g0) : Int)) &&   decide     ((↑(r_few_1 (0 : Nat) n0 n0 g0) : Int) ≤       (↑((0 : Nat) + r_few_1 (0 : Nat) n0 n0 g0 + r_few_1 (0 : Nat) n1 n1 g1) : Int)))
 (.br 0 (ok_crcSum (Int.toNat (↑(r_few_1 (0 : Nat) n0 n0 g0) : Int) - (0 : Nat)) fun (j cc : Nat) =>   appG (appG (fun (x x_1 : Nat) => (0 : Int)) (0 : Nat) fun (j c : Nat) => g0 (r_few_0 (0 : Nat) n0 n0 g0 + j) c)     ((0 : Nat) + r_few_1 (0 : Nat) n0 n0 g0) (fun (j c : Nat) => g1 (r_few_0 (0 : Nat) n1 n1 g1 + j) c) ((0 : Nat) + j)     cc)
 (.br 0 (ok_crcSum (r_few_1 (0 : Nat) n0 n0 g0) fun (j cc : Nat) => g0 (r_few_0 (0 : Nat) n0 n0 g0 + j) cc)
 (.br 30 ((r_crcSum_0 (Int.toNat (↑(r_few_1 (0 : Nat) n0 n0 g0) : Int) - (0 : Nat)) fun (j cc : Nat) =>     appG (appG (fun (x x_1 : Nat) => (0 : Int)) (0 : Nat) fun (j c : Nat) => g0 (r_few_0 (0 : Nat) n0 n0 g0 + j) c)       ((0 : Nat) + r_few_1 (0 : Nat) n0 n0 g0) (fun (j c : Nat) => g1 (r_few_0 (0 : Nat) n1 n1 g1 + j) c)       ((0 : Nat) + j) cc) ==   r_crcSum_0 (r_few_1 (0 : Nat) n0 n0 g0) fun (j cc : Nat) => g0 (r_few_0 (0 : Nat) n0 n0 g0 + j) cc)
 (.br 34 (decide ((0 : Int) ≤ (↑(r_few_1 (0 : Nat) n0 n0 g0) : Int)) &&   decide     ((↑(r_few_1 (0 : Nat) n0 n0 g0) : Int) ≤       (↑((0 : Nat) + r_few_1 (0 : Nat) n0 n0 g0 + r_few_1 (0 : Nat) n1 n1 g1) : Int)))
 (.ok [(.b (List.map     (fun (j : Nat) =>       UInt8.ofNat         (Int.toNat           (appG             (appG (fun (x x_1 : Nat) => (0 : Int)) (0 : Nat) fun (j c : Nat) => g0 (r_few_0 (0 : Nat) n0 n0 g0 + j) c)             ((0 : Nat) + r_few_1 (0 : Nat) n0 n0 g0) (fun (j c : Nat) => g1 (r_few_0 (0 : Nat) n1 n1 g1 + j) c)             ((0 : Nat) + Int.toNat (↑(r_few_1 (0 : Nat) n0 n0 g0) : Int) + j) (0 : Nat))))     (List.range       (Int.toNat (↑((0 : Nat) + r_few_1 (0 : Nat) n0 n0 g0 + r_few_1 (0 : Nat) n1 n1 g1) : Int) -         Int.toNat (↑(r_few_1 (0 : Nat) n0 n0 g0) : Int))) ==   List.map (fun (j : Nat) => UInt8.ofNat (Int.toNat (g1 (r_few_0 (0 : Nat) n1 n1 g1 + j) (0 : Nat))))     (List.range (r_few_1 (0 : Nat) n1 n1 g1))))])
 (.no))
 (.ok [(.b (false))]))
 (.no))
 (.no))
 (.no))
 (.no))
 (.no))
 (.no))
 (.no))
 (.no)
def y_CrcSpare : Nat → Option Nat := syOf3 [15, 17, 21, 30, 34] [] []
def TL_CrcSpare (l : List At) : Tr (List At) := T_CrcSpare (aRn l 0) (aRg l 0) (aRn l 1) (aRg l 1)
theorem e_CrcSpare (l : List At) : (call Try.prog Γ_shown y_CrcSpare noLoops 100 Try.f7 (mkV ish_CrcSpare l) (mkH ish_CrcSpare l)).bind (leafO ish_CrcSpare.hp.length ⟨[.v false [.k .b]], List.replicate ish_CrcSpare.hp.length .no⟩) = TL_CrcSpare l := by kernel_rfl

end Go.Proofs.Ytpgfnccagiiknaa.G

/-
  What functions of the seat compute, printed by a program from the explorer.
-/
import Derived.Test.YtepdekambalmhaaG7
import Derived.KernelRfl
namespace Go.Proofs.Ytepdekambalmhaa.G
open Go Go.AM Go.Proofs
/-! ### IpcLines -/

def ish_IpcLines : FSh := ⟨[.v false [.k (.n .i64)], .v false [.vw 0 1], .v true [.k (.n .u64), .k (.n .u64), .k (.n .u64), .k (.n .u64), .k (.n .u64), .k (.n .u64), .k (.n .u64), .k (.n .u64)]], [.rows [.n .i64] false]⟩
def osh_IpcLines : FSh := ⟨[.v false [.k .b]], [.no]⟩
def T_IpcLines (x0 : Int) (x1 : Int) (x2 : Int) (x3 : Int) (x4 : Int) (x5 : Int) (x6 : Int) (x7 : Int) (x8 : Int) (n9 : Nat) (g9 : Nat → Nat → Int) : Tr (List At) :=
 .br 0 (true)
 (.br 22 (decide ((↑n9 : Int) > (20 : Int)))
 (.br 24 (true && decide ((20 : Int) ≤ (↑n9 : Int)))
 (.br 0 (decide ((20 : Nat) ≤ (9223372036854775807 : Nat)))
 (.br 0 (decide ((20 : Nat) ≤ (9223372036854775807 : Nat)))
 (.br 0 (decide (Rng x1 x2 x3 x4 x5 x6 x7 x8))
 (.br 0 (decide (Rng x1 x2 x3 x4 x5 x6 x7 x8))
 (.br 0 (ok_same (bif gate x1 x2 x3 x4 x5 x6 x7 x8 then cnt x1 else (0 : Nat)) (fun (j cc : Nat) => gRows x2 x3 x4 x5 x6 x7 x8 ((0 : Nat) + j) cc) (bif gate x1 x2 x3 x4 x5 x6 x7 x8 then cnt x1 else (0 : Nat)) fun (j cc : Nat) => gRows x2 x3 x4 x5 x6 x7 x8 ((0 : Nat) + j) cc)
 (.br 58 (lineW x0 (20 : Nat) (fun (k : Nat) => g9 ((0 : Nat) + k) (0 : Nat)) (0 : Nat) == lineW x0 (20 : Nat) (fun (k : Nat) => g9 ((0 : Nat) + k) (0 : Nat)) (0 : Nat) && (lineW x0 (20 : Nat) (fun (k : Nat) => g9 ((0 : Nat) + k) (0 : Nat)) (1 : Nat) == lineW x0 (20 : Nat) (fun (k : Nat) => g9 ((0 : Nat) + k) (0 : Nat)) (1 : Nat) && (lineW x0 (20 : Nat) (fun (k : Nat) => g9 ((0 : Nat) + k) (0 : Nat)) (2 : Nat) == lineW x0 (20 : Nat) (fun (k : Nat) => g9 ((0 : Nat) + k) (0 : Nat)) (2 : Nat) && (lineW x0 (20 : Nat) (fun (k : Nat) => g9 ((0 : Nat) + k) (0 : Nat)) (3 : Nat) == lineW x0 (20 : Nat) (fun (k : Nat) => g9 ((0 : Nat) + k) (0 : Nat)) (3 : Nat) && (lineW x0 (20 : Nat) (fun (k : Nat) => g9 ((0 : Nat) + k) (0 : Nat)) (4 : Nat) == lineW x0 (20 : Nat) (fun (k : Nat) => g9 ((0 : Nat) + k) (0 : Nat)) (4 : Nat) && (lineW x0 (20 : Nat) (fun (k : Nat) => g9 ((0 : Nat) + k) (0 : Nat)) (5 : Nat) == lineW x0 (20 : Nat) (fun (k : Nat) => g9 ((0 : Nat) + k) (0 : Nat)) (5 : Nat) && (lineW x0 (20 : Nat) (fun (k : Nat) => g9 ((0 : Nat) + k) (0 : Nat)) (6 : Nat) == lineW x0 (20 : Nat) (fun (k : Nat) => g9 ((0 : Nat) + k) (0 : Nat)) (6 : Nat) && (lineW x0 (20 : Nat) (fun (k : Nat) => g9 ((0 : Nat) + k) (0 : Nat)) (7 : Nat) == lineW x0 (20 : Nat) (fun (k : Nat) => g9 ((0 : Nat) + k) (0 : Nat)) (7 : Nat) && true))))))))
 (.br 63 ((lineE x0 (20 : Nat) fun (k : Nat) => g9 ((0 : Nat) + k) (0 : Nat)) == lineE x0 (20 : Nat) fun (k : Nat) => g9 ((0 : Nat) + k) (0 : Nat))
 (.br 68 ((bif gate x1 x2 x3 x4 x5 x6 x7 x8 then x1 % (16 : Int) else (0 : Int)) == bif gate x1 x2 x3 x4 x5 x6 x7 x8 then x1 % (16 : Int) else (0 : Int))
 (.br 71 (r_same_0 (bif gate x1 x2 x3 x4 x5 x6 x7 x8 then cnt x1 else (0 : Nat)) (fun (j cc : Nat) => gRows x2 x3 x4 x5 x6 x7 x8 ((0 : Nat) + j) cc) (bif gate x1 x2 x3 x4 x5 x6 x7 x8 then cnt x1 else (0 : Nat)) fun (j cc : Nat) => gRows x2 x3 x4 x5 x6 x7 x8 ((0 : Nat) + j) cc)
 (.ok [(.b (gate x1 x2 x3 x4 x5 x6 x7 x8 == gate x1 x2 x3 x4 x5 x6 x7 x8))])
 (.ok [(.b (false))]))
 (.ok [(.b (false))]))
 (.ok [(.b (false))]))
 (.ok [(.b (false))]))
 (.no))
 (.no))
 (.no))
 (.no))
 (.no))
 (.no))
 (.br 0 (decide (n9 ≤ (9223372036854775807 : Nat)))
 (.br 0 (decide (n9 ≤ (9223372036854775807 : Nat)))
 (.br 0 (decide (Rng x1 x2 x3 x4 x5 x6 x7 x8))
 (.br 0 (decide (Rng x1 x2 x3 x4 x5 x6 x7 x8))
 (.br 0 (ok_same (bif gate x1 x2 x3 x4 x5 x6 x7 x8 then cnt x1 else (0 : Nat)) (fun (j cc : Nat) => gRows x2 x3 x4 x5 x6 x7 x8 ((0 : Nat) + j) cc) (bif gate x1 x2 x3 x4 x5 x6 x7 x8 then cnt x1 else (0 : Nat)) fun (j cc : Nat) => gRows x2 x3 x4 x5 x6 x7 x8 ((0 : Nat) + j) cc)
 (.br 58 (lineW x0 n9 (fun (k : Nat) => g9 ((0 : Nat) + k) (0 : Nat)) (0 : Nat) == lineW x0 n9 (fun (k : Nat) => g9 ((0 : Nat) + k) (0 : Nat)) (0 : Nat) && (lineW x0 n9 (fun (k : Nat) => g9 ((0 : Nat) + k) (0 : Nat)) (1 : Nat) == lineW x0 n9 (fun (k : Nat) => g9 ((0 : Nat) + k) (0 : Nat)) (1 : Nat) && (lineW x0 n9 (fun (k : Nat) => g9 ((0 : Nat) + k) (0 : Nat)) (2 : Nat) == lineW x0 n9 (fun (k : Nat) => g9 ((0 : Nat) + k) (0 : Nat)) (2 : Nat) && (lineW x0 n9 (fun (k : Nat) => g9 ((0 : Nat) + k) (0 : Nat)) (3 : Nat) == lineW x0 n9 (fun (k : Nat) => g9 ((0 : Nat) + k) (0 : Nat)) (3 : Nat) && (lineW x0 n9 (fun (k : Nat) => g9 ((0 : Nat) + k) (0 : Nat)) (4 : Nat) == lineW x0 n9 (fun (k : Nat) => g9 ((0 : Nat) + k) (0 : Nat)) (4 : Nat) && (lineW x0 n9 (fun (k : Nat) => g9 ((0 : Nat) + k) (0 : Nat)) (5 : Nat) == lineW x0 n9 (fun (k : Nat) => g9 ((0 : Nat) + k) (0 : Nat)) (5 : Nat) && (lineW x0 n9 (fun (k : Nat) => g9 ((0 : Nat) + k) (0 : Nat)) (6 : Nat) == lineW x0 n9 (fun (k : Nat) => g9 ((0 : Nat) + k) (0 : Nat)) (6 : Nat) && (lineW x0 n9 (fun (k : Nat) => g9 ((0 : Nat) + k) (0 : Nat)) (7 : Nat) == lineW x0 n9 (fun (k : Nat) => g9 ((0 : Nat) + k) (0 : Nat)) (7 : Nat) && true))))))))
 (.br 63 ((lineE x0 n9 fun (k : Nat) => g9 ((0 : Nat) + k) (0 : Nat)) == lineE x0 n9 fun (k : Nat) => g9 ((0 : Nat) + k) (0 : Nat))
 (.br 68 ((bif gate x1 x2 x3 x4 x5 x6 x7 x8 then x1 % (16 : Int) else (0 : Int)) == bif gate x1 x2 x3 x4 x5 x6 x7 x8 then x1 % (16 : Int) else (0 : Int))
 (.br 71 (r_same_0 (bif gate x1 x2 x3 x4 x5 x6 x7 x8 then cnt x1 else (0 : Nat)) (fun (j cc : Nat) => gRows x2 x3 x4 x5 x6 x7 x8 ((0 : Nat) + j) cc) (bif gate x1 x2 x3 x4 x5 x6 x7 x8 then cnt x1 else (0 : Nat)) fun (j cc : Nat) => gRows x2 x3 x4 x5 x6 x7 x8 ((0 : Nat) + j) cc)
 (.ok [(.b (gate x1 x2 x3 x4 x5 x6 x7 x8 == gate x1 x2 x3 x4 x5 x6 x7 x8))])
 (.ok [(.b (false))]))
 (.ok [(.b (false))]))
 (.ok [(.b (false))]))
 (.ok [(.b (false))]))
 (.no))
 (.no))
 (.no))
 (.no))
 (.no)))
 (.no)
def y_IpcLines : Nat → Option Nat := (syOf3 [22, 24, 58, 63, 68, 71] [] [])
def TL_IpcLines (l : List At) : Tr (List At) := T_IpcLines (aI l 0) (aI l 1) (aI l 2) (aI l 3) (aI l 4) (aI l 5) (aI l 6) (aI l 7) (aI l 8) (aRn l 9) (aRg l 9)
theorem e_IpcLines (l : List At) : (call Try.prog Γ_shown y_IpcLines noLoops 100 Try.f3 (mkV ish_IpcLines l) (mkH ish_IpcLines l)).bind (leafO ish_IpcLines.hp.length ⟨[.v false [.k .b]], List.replicate ish_IpcLines.hp.length .no⟩) = TL_IpcLines l := by kernel_rfl

end Go.Proofs.Ytepdekambalmhaa.G

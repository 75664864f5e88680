/-
  What functions of the seat compute, printed by a program from the explorer.
-/
import Derived.Test.YtepdekambalmhaaS4ToC8
import Derived.KernelRfl
section
namespace Go.Proofs.Ytepdekambalmhaa.G
open Go Go.AM Go.Proofs
/-! ### the loop at 10 of IpcOrder -/

def lsh_IpcOrder_10 : FSh := ⟨[.v false [.sq 0 1], .any, .any, .any, .any, .v false [.k .b], .v false [.k (.n .i64)], .v false [.k (.n .i64)], .v false [.p 1 0], .v false [.sw 2 1], .v false [.k (.n .i64)], .any, .any, .any, .any, .any, .any, .any, .any, .any, .any, .any, .any, .any, .any, .any, .any, .any, .any, .any, .any, .any, .any, .any, .any, .any, .any, .any, .any, .any, .any, .any, .any, .any, .any, .any, .any, .any, .any, .any, .any, .any, .any, .any, .any, .any, .any, .any, .any, .any, .any, .any, .any, .any, .any, .any, .any, .any, .any, .any, .any, .any, .any, .any, .any, .any, .any, .any, .any, .any, .any, .any, .any, .any, .any, .any, .any, .any, .any, .any, .any, .any, .any, .any, .any, .any, .any, .any, .any, .any, .any, .any, .any, .any, .any, .any, .any, .any, .any, .any, .any, .any, .any, .any, .any, .any, .any, .any, .any, .any, .any, .any, .any, .any, .any], [.rows [.n .i64] false, .cells [.k (.n .u64), .k (.n .u64), .k (.n .u64), .k (.n .u64), .k (.n .u64), .k (.n .u64), .k (.n .u64), .k (.n .u64)], .rows [.n .i64] true]⟩
def xsh_IpcOrder_10_0 : FSh := ⟨[.any, .any, .any, .any, .any, .v false [.k .b], .v false [.k (.n .i64)], .v false [.k (.n .i64)], .v false [.p 1 0], .v false [.sw 2 1], .any, .any, .any, .any, .any, .any, .any, .any, .any, .any, .any, .any, .any, .any, .any, .any, .any, .any, .any, .any, .any, .any, .any, .any, .any, .any, .any, .any, .any, .any, .any, .any, .any, .any, .any, .any, .any, .any, .any, .any, .any, .any, .any, .any, .any, .any, .any, .any, .any, .any, .any, .any, .any, .any, .any, .any, .any, .any, .any, .any, .any, .any, .any, .any, .any, .any, .any, .any, .any, .any, .any, .any, .any, .any, .any, .any, .any, .any, .any, .any, .any, .any, .any, .any, .any, .any, .any, .any, .any, .any, .any, .any, .any, .any, .any, .any, .any, .any, .any, .any, .any, .any, .any, .any, .any, .any, .any, .any, .any, .any, .any, .any, .any, .any, .any], [.no, .cells [.k (.n .u64), .k (.n .u64), .k (.n .u64), .k (.n .u64), .k (.n .u64), .k (.n .u64), .k (.n .u64), .k (.n .u64)], .rows [.n .i64] true]⟩
def xsh_IpcOrder_10_1 : FSh := ⟨[.any, .any, .any, .any, .v false [.k .b], .any, .any, .any, .any, .any, .any, .any, .any, .any, .any, .any, .any, .any, .any, .any, .any, .any, .any, .any, .any, .any, .any, .any, .any, .any, .any, .any, .any, .any, .any, .any, .any, .any, .any, .any, .any, .any, .any, .any, .any, .any, .any, .any, .any, .any, .any, .any, .any, .any, .any, .any, .any, .any, .any, .any, .any, .any, .any, .any, .any, .any, .any, .any, .any, .any, .any, .any, .any, .any, .any, .any, .any, .any, .any, .any, .any, .any, .any, .any, .any, .any, .any, .any, .any, .any, .any, .any, .any, .any, .any, .any, .any, .any, .any, .any, .any, .any, .any, .any, .any, .any, .any, .any, .any, .any, .any, .any, .any, .any, .any, .any, .any, .any, .any, .any, .any, .any, .any, .any, .any], [.no]⟩
def xs_IpcOrder_10 : Exs := fun e => match e with
  | .normal => some lsh_IpcOrder_10
  | .exit n => (match Nat.beq n 0 with | true => some xsh_IpcOrder_10_0 | false => none)
  | .ret => some xsh_IpcOrder_10_1
def B_IpcOrder_10 (x0 : Nat) (x1 : Nat) (x2 : Bool) (x3 : Int) (x4 : Int) (x5 : Int) (n6 : Nat) (g6 : Nat → Nat → Int) (x7 : Int) (x8 : Int) (x9 : Int) (x10 : Int) (x11 : Int) (x12 : Int) (x13 : Int) (x14 : Int) (n15 : Nat) (g15 : Nat → Nat → Int) : Tr (Ex × List At) :=
 .br 32 (decide (x5 < (↑x1 : Int)))
 (.br 35 (decide (x5 < (9 : Int)))
 (.br 40 (within x5 x1)
 (.br 44 (decide (Int.tmod (g6 (x0 + Int.toNat x5) (0 : Nat)) (49 : Int) < (0 : Int)))
 (.br 0 (decide (Rng x7 x8 x9 x10 x11 x12 x13 x14))
 (.br 59 (!(waitC x7 x8 x9 x10 x11 x12 x13 x14 x3 (IntKind.wrap IntKind.i64 ((0 : Int) - Int.tmod (g6 (x0 + Int.toNat x5) (0 : Nat)) (49 : Int))) == (0 : Int)) == decide (x5 < (7 : Int)))
 (.ok (.ret, [(.b (false))]))
 (.br 62 (waitC x7 x8 x9 x10 x11 x12 x13 x14 x3 (IntKind.wrap IntKind.i64 ((0 : Int) - Int.tmod (g6 (x0 + Int.toNat x5) (0 : Nat)) (49 : Int))) != (0 : Int))
 (.br 66 (waitC x7 x8 x9 x10 x11 x12 x13 x14 x3 (IntKind.wrap IntKind.i64 ((0 : Int) - Int.tmod (g6 (x0 + Int.toNat x5) (0 : Nat)) (49 : Int))) != (43 : Int))
 (.ok (.ret, [(.b (false))]))
 (.br 68 (waitC x7 x8 x9 x10 x11 x12 x13 x14 x3 (IntKind.wrap IntKind.i64 ((0 : Int) - Int.tmod (g6 (x0 + Int.toNat x5) (0 : Nat)) (49 : Int))) == (0 : Int))
 (.br 73 (decide (n15 + (1 : Nat) ≤ (1073741824 : Nat)))
 (.ok (.normal, [(.n (x0)), (.n (x1)), (.b (x2)), (.i (x3)), (.i (x4)), (.i (IntKind.wrap IntKind.i64 (x5 + (1 : Int)))), (.r (n6) (g6)), (.i (waitW x7 x8 x9 x10 x11 x12 x13 x14 x3 (IntKind.wrap IntKind.i64 ((0 : Int) - Int.tmod (g6 (x0 + Int.toNat x5) (0 : Nat)) (49 : Int))) (0 : Nat))), (.i (waitW x7 x8 x9 x10 x11 x12 x13 x14 x3 (IntKind.wrap IntKind.i64 ((0 : Int) - Int.tmod (g6 (x0 + Int.toNat x5) (0 : Nat)) (49 : Int))) (1 : Nat))), (.i (waitW x7 x8 x9 x10 x11 x12 x13 x14 x3 (IntKind.wrap IntKind.i64 ((0 : Int) - Int.tmod (g6 (x0 + Int.toNat x5) (0 : Nat)) (49 : Int))) (2 : Nat))), (.i (waitW x7 x8 x9 x10 x11 x12 x13 x14 x3 (IntKind.wrap IntKind.i64 ((0 : Int) - Int.tmod (g6 (x0 + Int.toNat x5) (0 : Nat)) (49 : Int))) (3 : Nat))), (.i (waitW x7 x8 x9 x10 x11 x12 x13 x14 x3 (IntKind.wrap IntKind.i64 ((0 : Int) - Int.tmod (g6 (x0 + Int.toNat x5) (0 : Nat)) (49 : Int))) (4 : Nat))), (.i (waitW x7 x8 x9 x10 x11 x12 x13 x14 x3 (IntKind.wrap IntKind.i64 ((0 : Int) - Int.tmod (g6 (x0 + Int.toNat x5) (0 : Nat)) (49 : Int))) (5 : Nat))), (.i (waitW x7 x8 x9 x10 x11 x12 x13 x14 x3 (IntKind.wrap IntKind.i64 ((0 : Int) - Int.tmod (g6 (x0 + Int.toNat x5) (0 : Nat)) (49 : Int))) (6 : Nat))), (.i (waitW x7 x8 x9 x10 x11 x12 x13 x14 x3 (IntKind.wrap IntKind.i64 ((0 : Int) - Int.tmod (g6 (x0 + Int.toNat x5) (0 : Nat)) (49 : Int))) (7 : Nat))), (.r (n15 + (1 : Nat)) (appG g15 n15 (rowsF [[IntKind.wrap IntKind.i64 ((0 : Int) - Int.tmod (g6 (x0 + Int.toNat x5) (0 : Nat)) (49 : Int))]])))]))
 (.no))
 (.ok (.normal, [(.n (x0)), (.n (x1)), (.b (x2)), (.i (x3)), (.i (x4)), (.i (IntKind.wrap IntKind.i64 (x5 + (1 : Int)))), (.r (n6) (g6)), (.i (x7)), (.i (x8)), (.i (x9)), (.i (x10)), (.i (x11)), (.i (x12)), (.i (x13)), (.i (x14)), (.r (n15) (g15))]))))
 (.br 68 (waitC x7 x8 x9 x10 x11 x12 x13 x14 x3 (IntKind.wrap IntKind.i64 ((0 : Int) - Int.tmod (g6 (x0 + Int.toNat x5) (0 : Nat)) (49 : Int))) == (0 : Int))
 (.br 73 (decide (n15 + (1 : Nat) ≤ (1073741824 : Nat)))
 (.ok (.normal, [(.n (x0)), (.n (x1)), (.b (x2)), (.i (x3)), (.i (x4)), (.i (IntKind.wrap IntKind.i64 (x5 + (1 : Int)))), (.r (n6) (g6)), (.i (waitW x7 x8 x9 x10 x11 x12 x13 x14 x3 (IntKind.wrap IntKind.i64 ((0 : Int) - Int.tmod (g6 (x0 + Int.toNat x5) (0 : Nat)) (49 : Int))) (0 : Nat))), (.i (waitW x7 x8 x9 x10 x11 x12 x13 x14 x3 (IntKind.wrap IntKind.i64 ((0 : Int) - Int.tmod (g6 (x0 + Int.toNat x5) (0 : Nat)) (49 : Int))) (1 : Nat))), (.i (waitW x7 x8 x9 x10 x11 x12 x13 x14 x3 (IntKind.wrap IntKind.i64 ((0 : Int) - Int.tmod (g6 (x0 + Int.toNat x5) (0 : Nat)) (49 : Int))) (2 : Nat))), (.i (waitW x7 x8 x9 x10 x11 x12 x13 x14 x3 (IntKind.wrap IntKind.i64 ((0 : Int) - Int.tmod (g6 (x0 + Int.toNat x5) (0 : Nat)) (49 : Int))) (3 : Nat))), (.i (waitW x7 x8 x9 x10 x11 x12 x13 x14 x3 (IntKind.wrap IntKind.i64 ((0 : Int) - Int.tmod (g6 (x0 + Int.toNat x5) (0 : Nat)) (49 : Int))) (4 : Nat))), (.i (waitW x7 x8 x9 x10 x11 x12 x13 x14 x3 (IntKind.wrap IntKind.i64 ((0 : Int) - Int.tmod (g6 (x0 + Int.toNat x5) (0 : Nat)) (49 : Int))) (5 : Nat))), (.i (waitW x7 x8 x9 x10 x11 x12 x13 x14 x3 (IntKind.wrap IntKind.i64 ((0 : Int) - Int.tmod (g6 (x0 + Int.toNat x5) (0 : Nat)) (49 : Int))) (6 : Nat))), (.i (waitW x7 x8 x9 x10 x11 x12 x13 x14 x3 (IntKind.wrap IntKind.i64 ((0 : Int) - Int.tmod (g6 (x0 + Int.toNat x5) (0 : Nat)) (49 : Int))) (7 : Nat))), (.r (n15 + (1 : Nat)) (appG g15 n15 (rowsF [[IntKind.wrap IntKind.i64 ((0 : Int) - Int.tmod (g6 (x0 + Int.toNat x5) (0 : Nat)) (49 : Int))]])))]))
 (.no))
 (.ok (.normal, [(.n (x0)), (.n (x1)), (.b (x2)), (.i (x3)), (.i (x4)), (.i (IntKind.wrap IntKind.i64 (x5 + (1 : Int)))), (.r (n6) (g6)), (.i (x7)), (.i (x8)), (.i (x9)), (.i (x10)), (.i (x11)), (.i (x12)), (.i (x13)), (.i (x14)), (.r (n15) (g15))])))))
 (.no))
 (.br 0 (decide (Rng x7 x8 x9 x10 x11 x12 x13 x14))
 (.br 59 (!(waitC x7 x8 x9 x10 x11 x12 x13 x14 x3 (Int.tmod (g6 (x0 + Int.toNat x5) (0 : Nat)) (49 : Int)) == (0 : Int)) == decide (x5 < (7 : Int)))
 (.ok (.ret, [(.b (false))]))
 (.br 62 (waitC x7 x8 x9 x10 x11 x12 x13 x14 x3 (Int.tmod (g6 (x0 + Int.toNat x5) (0 : Nat)) (49 : Int)) != (0 : Int))
 (.br 66 (waitC x7 x8 x9 x10 x11 x12 x13 x14 x3 (Int.tmod (g6 (x0 + Int.toNat x5) (0 : Nat)) (49 : Int)) != (43 : Int))
 (.ok (.ret, [(.b (false))]))
 (.br 68 (waitC x7 x8 x9 x10 x11 x12 x13 x14 x3 (Int.tmod (g6 (x0 + Int.toNat x5) (0 : Nat)) (49 : Int)) == (0 : Int))
 (.br 73 (decide (n15 + (1 : Nat) ≤ (1073741824 : Nat)))
 (.ok (.normal, [(.n (x0)), (.n (x1)), (.b (x2)), (.i (x3)), (.i (x4)), (.i (IntKind.wrap IntKind.i64 (x5 + (1 : Int)))), (.r (n6) (g6)), (.i (waitW x7 x8 x9 x10 x11 x12 x13 x14 x3 (Int.tmod (g6 (x0 + Int.toNat x5) (0 : Nat)) (49 : Int)) (0 : Nat))), (.i (waitW x7 x8 x9 x10 x11 x12 x13 x14 x3 (Int.tmod (g6 (x0 + Int.toNat x5) (0 : Nat)) (49 : Int)) (1 : Nat))), (.i (waitW x7 x8 x9 x10 x11 x12 x13 x14 x3 (Int.tmod (g6 (x0 + Int.toNat x5) (0 : Nat)) (49 : Int)) (2 : Nat))), (.i (waitW x7 x8 x9 x10 x11 x12 x13 x14 x3 (Int.tmod (g6 (x0 + Int.toNat x5) (0 : Nat)) (49 : Int)) (3 : Nat))), (.i (waitW x7 x8 x9 x10 x11 x12 x13 x14 x3 (Int.tmod (g6 (x0 + Int.toNat x5) (0 : Nat)) (49 : Int)) (4 : Nat))), (.i (waitW x7 x8 x9 x10 x11 x12 x13 x14 x3 (Int.tmod (g6 (x0 + Int.toNat x5) (0 : Nat)) (49 : Int)) (5 : Nat))), (.i (waitW x7 x8 x9 x10 x11 x12 x13 x14 x3 (Int.tmod (g6 (x0 + Int.toNat x5) (0 : Nat)) (49 : Int)) (6 : Nat))), (.i (waitW x7 x8 x9 x10 x11 x12 x13 x14 x3 (Int.tmod (g6 (x0 + Int.toNat x5) (0 : Nat)) (49 : Int)) (7 : Nat))), (.r (n15 + (1 : Nat)) (appG g15 n15 (rowsF [[Int.tmod (g6 (x0 + Int.toNat x5) (0 : Nat)) (49 : Int)]])))]))
 (.no))
 (.ok (.normal, [(.n (x0)), (.n (x1)), (.b (x2)), (.i (x3)), (.i (x4)), (.i (IntKind.wrap IntKind.i64 (x5 + (1 : Int)))), (.r (n6) (g6)), (.i (x7)), (.i (x8)), (.i (x9)), (.i (x10)), (.i (x11)), (.i (x12)), (.i (x13)), (.i (x14)), (.r (n15) (g15))]))))
 (.br 68 (waitC x7 x8 x9 x10 x11 x12 x13 x14 x3 (Int.tmod (g6 (x0 + Int.toNat x5) (0 : Nat)) (49 : Int)) == (0 : Int))
 (.br 73 (decide (n15 + (1 : Nat) ≤ (1073741824 : Nat)))
 (.ok (.normal, [(.n (x0)), (.n (x1)), (.b (x2)), (.i (x3)), (.i (x4)), (.i (IntKind.wrap IntKind.i64 (x5 + (1 : Int)))), (.r (n6) (g6)), (.i (waitW x7 x8 x9 x10 x11 x12 x13 x14 x3 (Int.tmod (g6 (x0 + Int.toNat x5) (0 : Nat)) (49 : Int)) (0 : Nat))), (.i (waitW x7 x8 x9 x10 x11 x12 x13 x14 x3 (Int.tmod (g6 (x0 + Int.toNat x5) (0 : Nat)) (49 : Int)) (1 : Nat))), (.i (waitW x7 x8 x9 x10 x11 x12 x13 x14 x3 (Int.tmod (g6 (x0 + Int.toNat x5) (0 : Nat)) (49 : Int)) (2 : Nat))), (.i (waitW x7 x8 x9 x10 x11 x12 x13 x14 x3 (Int.tmod (g6 (x0 + Int.toNat x5) (0 : Nat)) (49 : Int)) (3 : Nat))), (.i (waitW x7 x8 x9 x10 x11 x12 x13 x14 x3 (Int.tmod (g6 (x0 + Int.toNat x5) (0 : Nat)) (49 : Int)) (4 : Nat))), (.i (waitW x7 x8 x9 x10 x11 x12 x13 x14 x3 (Int.tmod (g6 (x0 + Int.toNat x5) (0 : Nat)) (49 : Int)) (5 : Nat))), (.i (waitW x7 x8 x9 x10 x11 x12 x13 x14 x3 (Int.tmod (g6 (x0 + Int.toNat x5) (0 : Nat)) (49 : Int)) (6 : Nat))), (.i (waitW x7 x8 x9 x10 x11 x12 x13 x14 x3 (Int.tmod (g6 (x0 + Int.toNat x5) (0 : Nat)) (49 : Int)) (7 : Nat))), (.r (n15 + (1 : Nat)) (appG g15 n15 (rowsF [[Int.tmod (g6 (x0 + Int.toNat x5) (0 : Nat)) (49 : Int)]])))]))
 (.no))
 (.ok (.normal, [(.n (x0)), (.n (x1)), (.b (x2)), (.i (x3)), (.i (x4)), (.i (IntKind.wrap IntKind.i64 (x5 + (1 : Int)))), (.r (n6) (g6)), (.i (x7)), (.i (x8)), (.i (x9)), (.i (x10)), (.i (x11)), (.i (x12)), (.i (x13)), (.i (x14)), (.r (n15) (g15))])))))
 (.no)))
 (.no))
 (.ok (.exit 0, [(.b (x2)), (.i (x3)), (.i (x4)), (.i (x7)), (.i (x8)), (.i (x9)), (.i (x10)), (.i (x11)), (.i (x12)), (.i (x13)), (.i (x14)), (.r (n15) (g15))])))
 (.ok (.exit 0, [(.b (x2)), (.i (x3)), (.i (x4)), (.i (x7)), (.i (x8)), (.i (x9)), (.i (x10)), (.i (x11)), (.i (x12)), (.i (x13)), (.i (x14)), (.r (n15) (g15))]))
def y_IpcOrder_10 : Nat → Option Nat := (syOf3 [32, 35, 40, 44, 59, 62, 66, 68, 73] [] [])
def BL_IpcOrder_10 (l : List At) : Tr (Ex × List At) := B_IpcOrder_10 (aN l 0) (aN l 1) (aB l 2) (aI l 3) (aI l 4) (aI l 5) (aRn l 6) (aRg l 6) (aI l 7) (aI l 8) (aI l 9) (aI l 10) (aI l 11) (aI l 12) (aI l 13) (aI l 14) (aRn l 15) (aRg l 15)
theorem eB_IpcOrder_10 (l : List At) : (exec Try.prog Γ_shown y_IpcOrder_10 noLoops 100 (loopAt Try.f5 10) ⟨mkV lsh_IpcOrder_10 l, mkH lsh_IpcOrder_10 l⟩).bind (leafL 1 xs_IpcOrder_10) = BL_IpcOrder_10 l := by kernel_rfl
/- by hand: O_IpcOrder_10 (x0 : Nat) (x1 : Nat) (x2 : Bool) (x3 : Int) (x4 : Int) (x5 : Int) (n6 : Nat) (g6 : Nat → Nat → Int) (x7 : Int) (x8 : Int) (x9 : Int) (x10 : Int) (x11 : Int) (x12 : Int) (x13 : Int) (x14 : Int) (n15 : Nat) (g15 : Nat → Nat → Int) : Tr (Ex × List At); OL_IpcOrder_10 (l) := O_IpcOrder_10 (aN l 0) (aN l 1) (aB l 2) (aI l 3) (aI l 4) (aI l 5) (aRn l 6) (aRg l 6) (aI l 7) (aI l 8) (aI l 9) (aI l 10) (aI l 11) (aI l 12) (aI l 13) (aI l 14) (aRn l 15) (aRg l 15); μ_IpcOrder_10 : List At → Nat; rd_IpcOrder_10 : ∀ l r, (OL_IpcOrder_10 l).val = some r → RoundA BL_IpcOrder_10 OL_IpcOrder_10 μ_IpcOrder_10 l r -/

end Go.Proofs.Ytepdekambalmhaa.G
end

/-
  A gate's line, made of those who wait: what Wait and Meet come to at one.
-/
section
namespace Go.Proofs.Ytepdekambalmhaa.G
open Go Go.AM Go.Proofs

/-- The line's word 'j' where the first 'c' of 'G' wait in the mode 'm'. -/
def lineAt (m : Int) (c : Nat) (G : Nat → Int) (j : Nat) : Int := if c = 0 then 0 else lineC m c G j

theorem lineAt_0 {m : Int} {c : Nat} {G : Nat → Int} (hc : c ≠ 0) : lineAt m c G 0 = m + 16 * c := by unfold lineAt lineC; rw [if_neg hc, if_pos rfl]
theorem lineAt_s {m : Int} {c : Nat} {G : Nat → Int} (k : Nat) : lineAt m c G (k + 1) = if k < c then G k else 0 := by
  unfold lineAt lineC
  by_cases hc : c = 0
  · subst hc; simp
  · rw [if_neg hc, if_neg (Nat.succ_ne_zero k)]
    by_cases h : k < c
    · rw [if_pos h, if_pos (by omega)]; rfl
    · rw [if_neg h, if_neg (by omega)]

section
variable {m : Int} {c : Nat} {G : Nat → Int} (hm : m = 3 ∨ m = 4) (hc : c ≤ 7) (hG : ∀ k, k < c → 0 ≤ G k ∧ G k < 49)
include hm hc hG

theorem at_rng : Rng (lineAt m c G 0) (lineAt m c G 1) (lineAt m c G 2) (lineAt m c G 3) (lineAt m c G 4) (lineAt m c G 5) (lineAt m c G 6) (lineAt m c G 7) := by
  have h0 : 0 ≤ lineAt m c G 0 ∧ lineAt m c G 0 < 18446744073709551616 := by
    by_cases h : c = 0
    · subst h; unfold lineAt; simp
    · rw [lineAt_0 h]; omega
  have hs : ∀ k, 0 ≤ lineAt m c G (k + 1) ∧ lineAt m c G (k + 1) < 18446744073709551616 := by
    intro k
    rw [lineAt_s]
    by_cases h : k < c
    · rw [if_pos h]; have := hG k h; omega
    · rw [if_neg h]; omega
  unfold Rng
  exact ⟨h0.1, h0.2, (hs 0).1, (hs 0).2, (hs 1).1, (hs 1).2, (hs 2).1, (hs 2).2, (hs 3).1, (hs 3).2, (hs 4).1, (hs 4).2, (hs 5).1, (hs 5).2, (hs 6).1, (hs 6).2⟩

omit hG in
theorem at_cnt : cnt (lineAt m c G 0) = c ∧ lineAt m c G 0 % 16 = if c = 0 then 0 else m := by
  by_cases h : c = 0
  · subst h; unfold lineAt; rw [if_pos rfl, if_pos rfl]; exact ⟨rfl, rfl⟩
  · rw [lineAt_0 h, if_neg h]
    unfold cnt
    omega

omit hm hG in
theorem at_wds (k : Nat) (hk : k < c) : wds (lineAt m c G 1) (lineAt m c G 2) (lineAt m c G 3) (lineAt m c G 4) (lineAt m c G 5) (lineAt m c G 6) (lineAt m c G 7) k = G k := by
  have e : wds (lineAt m c G 1) (lineAt m c G 2) (lineAt m c G 3) (lineAt m c G 4) (lineAt m c G 5) (lineAt m c G 6) (lineAt m c G 7) k = lineAt m c G (k + 1) := by
    obtain h | h | h | h | h | h | h : k = 0 ∨ k = 1 ∨ k = 2 ∨ k = 3 ∨ k = 4 ∨ k = 5 ∨ k = 6 := by omega
    all_goals (subst h; rfl)
  rw [e, lineAt_s, if_pos hk]

theorem at_gate : gate (lineAt m c G 0) (lineAt m c G 1) (lineAt m c G 2) (lineAt m c G 3) (lineAt m c G 4) (lineAt m c G 5) (lineAt m c G 6) (lineAt m c G 7) = true := by
  obtain ⟨e1, e2⟩ := at_cnt hm hc (G := G)
  have hw := at_wds hc (m := m) (G := G)
  by_cases h : c = 0
  · subst h
    unfold lineAt
    simp only [if_true]
    decide
  · rw [if_neg h] at e2
    unfold gate
    rw [e1, e2]
    have hl : lineOk m c (wds (lineAt m c G 1) (lineAt m c G 2) (lineAt m c G 3) (lineAt m c G 4) (lineAt m c G 5) (lineAt m c G 6) (lineAt m c G 7)) = true := by
      unfold lineOk
      rw [Bool.and_eq_true]
      refine ⟨decide_eq_true (by omega), decide_eq_true fun k hk => ?_⟩
      rw [hw k hk]
      exact decide_eq_true (hG k hk)
    have hj : ∀ j, lineC m c (wds (lineAt m c G 1) (lineAt m c G 2) (lineAt m c G 3) (lineAt m c G 4) (lineAt m c G 5) (lineAt m c G 6) (lineAt m c G 7)) j = lineAt m c G j := by
      intro j
      rw [show lineAt m c G j = lineC m c G j from if_neg h]
      unfold lineC
      by_cases h0 : j = 0
      · rw [if_pos h0, if_pos h0]
      · rw [if_neg h0, if_neg h0]
        by_cases h1 : j ≤ c
        · rw [if_pos h1, if_pos h1, hw _ (by omega)]
        · rw [if_neg h1, if_neg h1]
    rw [hl]
    simp only [hj, beq_self_eq_true, Bool.and_self]

/-- One more may wait, if there is room. -/
theorem at_wait {x : Int} (hx : 0 ≤ x ∧ x < 49) : waitC (lineAt m c G 0) (lineAt m c G 1) (lineAt m c G 2) (lineAt m c G 3) (lineAt m c G 4) (lineAt m c G 5) (lineAt m c G 6) (lineAt m c G 7) m x = if c = 7 then 43 else 0 := by
  obtain ⟨e1, e2⟩ := at_cnt hm hc (G := G)
  unfold waitC
  rw [if_neg (by omega), at_gate hm hc hG, e1, e2]
  have : ¬ ((if c = 0 then 0 else m) ≠ 0 ∧ (if c = 0 then 0 else m) ≠ m) := by split <;> omega
  rw [if_neg this]
  rfl

theorem at_waitW {x : Int} (hx : 0 ≤ x ∧ x < 49) (h7 : c ≠ 7) (j : Nat) {G' : Nat → Int} (hG1 : ∀ k, k < c → G' k = G k) (hG2 : G' c = x) : waitW (lineAt m c G 0) (lineAt m c G 1) (lineAt m c G 2) (lineAt m c G 3) (lineAt m c G 4) (lineAt m c G 5) (lineAt m c G 6) (lineAt m c G 7) m x j = lineAt m (c + 1) G' j := by
  obtain ⟨e1, e2⟩ := at_cnt hm hc (G := G)
  unfold waitW
  rw [at_wait hm hc hG hx, if_neg h7, if_pos rfl, e1, show lineAt m (c + 1) G' j = lineC m (c + 1) G' j from if_neg (Nat.succ_ne_zero c)]
  unfold lineC
  by_cases h0 : j = 0
  · rw [if_pos h0, if_pos h0]
  · rw [if_neg h0, if_neg h0]
    by_cases h1 : j ≤ c + 1
    · rw [if_pos h1, if_pos h1]
      unfold addG
      rw [e1]
      by_cases h2 : j - 1 < c
      · rw [if_pos h2, hG1 _ h2]
        exact at_wds hc (j - 1) h2
      · rw [if_neg h2, show j - 1 = c by omega, hG2]
    · rw [if_neg h1, if_neg h1]

omit hG in
/-- Nobody meets one of the same mode. -/
theorem at_same : meetB (lineAt m c G 0) (lineAt m c G 1) (lineAt m c G 2) (lineAt m c G 3) (lineAt m c G 4) (lineAt m c G 5) (lineAt m c G 6) (lineAt m c G 7) m = false := by
  obtain ⟨e1, e2⟩ := at_cnt hm hc (G := G)
  unfold meetB
  rw [e2, decide_eq_false, Bool.and_false]
  split <;> omega

theorem at_meet {o : Int} (ho : (o = 3 ∨ o = 4) ∧ o ≠ m) : meetB (lineAt m c G 0) (lineAt m c G 1) (lineAt m c G 2) (lineAt m c G 3) (lineAt m c G 4) (lineAt m c G 5) (lineAt m c G 6) (lineAt m c G 7) o = decide (c ≠ 0) := by
  obtain ⟨e1, e2⟩ := at_cnt hm hc (G := G)
  unfold meetB
  rw [at_gate hm hc hG, e2, Bool.true_and, decide_eq_decide]
  split <;> omega

theorem at_meetI {o : Int} (ho : (o = 3 ∨ o = 4) ∧ o ≠ m) (h0 : c ≠ 0) : meetI (lineAt m c G 0) (lineAt m c G 1) (lineAt m c G 2) (lineAt m c G 3) (lineAt m c G 4) (lineAt m c G 5) (lineAt m c G 6) (lineAt m c G 7) o = G 0 := by
  unfold meetI
  rw [at_meet hm hc hG ho, decide_eq_true h0, cond_true]
  have := lineAt_s (m := m) (c := c) (G := G) 0
  rw [if_pos (by omega)] at this
  exact this

theorem at_meetW {o : Int} (ho : (o = 3 ∨ o = 4) ∧ o ≠ m) (h0 : c ≠ 0) (j : Nat) {G' : Nat → Int} (hG1 : ∀ k, k + 1 < c → G' k = G (k + 1)) : meetW (lineAt m c G 0) (lineAt m c G 1) (lineAt m c G 2) (lineAt m c G 3) (lineAt m c G 4) (lineAt m c G 5) (lineAt m c G 6) (lineAt m c G 7) o j = lineAt m (c - 1) G' j := by
  obtain ⟨e1, e2⟩ := at_cnt hm hc (G := G)
  rw [if_neg h0] at e2
  unfold meetW
  rw [at_meet hm hc hG ho, decide_eq_true h0, cond_true, e1, e2]
  by_cases h1 : c = 1
  · rw [if_pos h1, show lineAt m (c - 1) G' j = 0 from if_pos (by omega)]
  · rw [if_neg h1, show lineAt m (c - 1) G' j = lineC m (c - 1) G' j from if_neg (by omega)]
    unfold lineC
    by_cases h2 : j = 0
    · rw [if_pos h2, if_pos h2]
    · rw [if_neg h2, if_neg h2]
      by_cases h3 : j ≤ c - 1
      · rw [if_pos h3, if_pos h3, hG1 _ (by omega)]
        exact at_wds hc _ (by omega)
      · rw [if_neg h3, if_neg h3]
end

/-- A number, modulo 49, as one that may wait. -/
def idv (v : Int) : Int := if v.tmod 49 < 0 then IntKind.wrap IntKind.i64 (0 - v.tmod 49) else v.tmod 49
theorem idv_ok (v : Int) : 0 ≤ idv v ∧ idv v < 49 := by
  have h : -49 < v.tmod 49 ∧ v.tmod 49 < 49 := by
    rcases Int.le_total 0 v with h0 | h0
    · rw [Int.tmod_eq_emod_of_nonneg h0]; omega
    · have e : v.tmod 49 = -((-v).tmod 49) := by rw [Int.neg_tmod, Int.neg_neg]
      rw [e, Int.tmod_eq_emod_of_nonneg (by omega)]; omega
  unfold idv
  split
  · rw [wrap_i64 (by omega) (by omega)]; omega
  · omega
end Go.Proofs.Ytepdekambalmhaa.G
end

/-
  What the loop in which they wait, one behind the other, comes to.
-/
section
namespace Go.Proofs.Ytepdekambalmhaa.G
open Go Go.AM Go.Proofs

noncomputable def pdec (p : Prop) : Bool := @decide p (Classical.propDecidable p)
theorem pdec_yes {p : Prop} (h : p) : pdec p = true := @decide_eq_true p (Classical.propDecidable p) h
theorem of_pdec {p : Prop} (h : pdec p = true) : p := @of_decide_eq_true p (Classical.propDecidable p) h

def gcol (G : Nat → Int) : Nat → Nat → Int := fun k c => match c with
  | 0 => G k
  | _ + 1 => 0

def pre10 (x1 : Nat) (x3 x5 x7 x8 x9 x10 x11 x12 x13 x14 : Int) (G : Nat → Int) (n15 : Nat) (g15 : Nat → Nat → Int) : Prop :=
  0 ≤ x5 ∧ x5 ≤ x1 ∧ x5 ≤ 9 ∧ (x3 = 3 ∨ x3 = 4) ∧ n15 = min x5.toNat 7 ∧ (x7 = lineAt x3 n15 G 0 ∧ x8 = lineAt x3 n15 G 1 ∧ x9 = lineAt x3 n15 G 2 ∧ x10 = lineAt x3 n15 G 3 ∧ x11 = lineAt x3 n15 G 4 ∧ x12 = lineAt x3 n15 G 5 ∧ x13 = lineAt x3 n15 G 6 ∧ x14 = lineAt x3 n15 G 7) ∧ ∀ k, k < n15 → ∀ c, g15 k c = gcol G k c

noncomputable def O_IpcOrder_10 (x0 x1 : Nat) (x2 : Bool) (x3 x4 x5 : Int) (_n6 : Nat) (g6 : Nat → Nat → Int) (x7 x8 x9 x10 x11 x12 x13 x14 : Int) (n15 : Nat) (g15 : Nat → Nat → Int) : Tr (Ex × List At) :=
  .br 0 (pdec (pre10 x1 x3 x5 x7 x8 x9 x10 x11 x12 x13 x14 (fun k => idv (g6 (x0 + k) 0)) n15 g15)) (.ok (.exit 0, [.b x2, .i x3, .i x4, .i (lineAt x3 (min (min x1 9) 7) (fun k => idv (g6 (x0 + k) 0)) 0), .i (lineAt x3 (min (min x1 9) 7) (fun k => idv (g6 (x0 + k) 0)) 1), .i (lineAt x3 (min (min x1 9) 7) (fun k => idv (g6 (x0 + k) 0)) 2), .i (lineAt x3 (min (min x1 9) 7) (fun k => idv (g6 (x0 + k) 0)) 3), .i (lineAt x3 (min (min x1 9) 7) (fun k => idv (g6 (x0 + k) 0)) 4), .i (lineAt x3 (min (min x1 9) 7) (fun k => idv (g6 (x0 + k) 0)) 5), .i (lineAt x3 (min (min x1 9) 7) (fun k => idv (g6 (x0 + k) 0)) 6), .i (lineAt x3 (min (min x1 9) 7) (fun k => idv (g6 (x0 + k) 0)) 7), .r (min (min x1 9) 7) (gcol (fun k => idv (g6 (x0 + k) 0)))])) .no
noncomputable def OL_IpcOrder_10 (l : List At) : Tr (Ex × List At) := O_IpcOrder_10 (aN l 0) (aN l 1) (aB l 2) (aI l 3) (aI l 4) (aI l 5) (aRn l 6) (aRg l 6) (aI l 7) (aI l 8) (aI l 9) (aI l 10) (aI l 11) (aI l 12) (aI l 13) (aI l 14) (aRn l 15) (aRg l 15)
def μ_IpcOrder_10 (l : List At) : Nat := ((aN l 1 : Int) - aI l 5).toNat

theorem appG_at {g src : Nat → Nat → Int} {n : Nat} (c : Nat) : appG g n src n c = src 0 c := by unfold appG; rw [if_neg (by omega), Nat.sub_self]
theorem appG_lt {g src : Nat → Nat → Int} {n k : Nat} (h : k < n) (c : Nat) : appG g n src k c = g k c := by unfold appG; rw [if_pos h]

theorem rd_IpcOrder_10 : ∀ l r, (OL_IpcOrder_10 l).val = some r → RoundS BL_IpcOrder_10 OL_IpcOrder_10 μ_IpcOrder_10 l r := by
  intro l r h
  obtain ⟨hc, h⟩ := guard_val h
  have hp := of_pdec hc
  have hr := val_ok h
  obtain ⟨c0, c1, c2, hm, hn, ⟨e0, e1, e2, e3, e4, e5, e6, e7⟩, hg⟩ := hp
  have hG : ∀ k, 0 ≤ (fun k => idv (aRg l 6 (aN l 0 + k) 0)) k ∧ (fun k => idv (aRg l 6 (aN l 0 + k) 0)) k < 49 := fun k => idv_ok _
  have hn7 : aRn l 15 ≤ 7 := by omega
  unfold RoundS BL_IpcOrder_10 B_IpcOrder_10
  have stop : ¬ (aI l 5 < aN l 1 ∧ aI l 5 < 9) → (Tr.ok (Ex.exit 0, [At.b (aB l 2), At.i (aI l 3), At.i (aI l 4), At.i (aI l 7), At.i (aI l 8), At.i (aI l 9), At.i (aI l 10), At.i (aI l 11), At.i (aI l 12), At.i (aI l 13), At.i (aI l 14), At.r (aRn l 15) (aRg l 15)])).sat fun p => (p.1 = .normal ∧ ∃ l2 r', AtsEq p.2 l2 ∧ μ_IpcOrder_10 l2 < μ_IpcOrder_10 l ∧ (OL_IpcOrder_10 l2).val = some r' ∧ r'.1 = r.1 ∧ AtsEq r'.2 r.2) ∨ (p.1 ≠ .normal ∧ r.1 = p.1 ∧ AtsEq p.2 r.2) := by
    intro hs
    subst hr
    have hN : min (min (aN l 1) 9) 7 = aRn l 15 := by omega
    refine out_ (by simp) rfl ?_
    rw [hN]
    exact atsEq_cons (AtEq.refl _) (atsEq_cons (AtEq.refl _) (atsEq_cons (AtEq.refl _) (atsEq_cons (atEq_i e0) (atsEq_cons (atEq_i e1) (atsEq_cons (atEq_i e2) (atsEq_cons (atEq_i e3) (atsEq_cons (atEq_i e4) (atsEq_cons (atEq_i e5) (atsEq_cons (atEq_i e6) (atsEq_cons (atEq_i e7) (atsEq_cons (atEq_r rfl hg) atsEq_nil)))))))))))
  refine brD (fun h1 => brD (fun h2 => brW (fun _ => ?_) (fun hh => by exfalso; omega)) (fun h2 => stop (by omega))) (fun h1 => stop (by omega))
  have hw : IntKind.i64.wrap (aI l 5 + 1) = aI l 5 + 1 := wrap_i64 (by omega) (by omega)
  have hR : Rng (aI l 7) (aI l 8) (aI l 9) (aI l 10) (aI l 11) (aI l 12) (aI l 13) (aI l 14) := by
    rw [e0, e1, e2, e3, e4, e5, e6, e7]
    exact at_rng hm hn7 fun k _ => hG k
  have hC : waitC (aI l 7) (aI l 8) (aI l 9) (aI l 10) (aI l 11) (aI l 12) (aI l 13) (aI l 14) (aI l 3) ((fun k => idv (aRg l 6 (aN l 0 + k) 0)) (aI l 5).toNat) = if aRn l 15 = 7 then 43 else 0 := by
    rw [e0, e1, e2, e3, e4, e5, e6, e7]
    exact at_wait hm hn7 (fun k _ => hG k) (hG _)
  have on : ∀ v, v = (fun k => idv (aRg l 6 (aN l 0 + k) 0)) (aI l 5).toNat → (Tr.br 0 (decide (Rng (aI l 7) (aI l 8) (aI l 9) (aI l 10) (aI l 11) (aI l 12) (aI l 13) (aI l 14)))
      (.br 59 (!(waitC (aI l 7) (aI l 8) (aI l 9) (aI l 10) (aI l 11) (aI l 12) (aI l 13) (aI l 14) (aI l 3) v == 0) == decide (aI l 5 < 7))
      (.ok (Ex.ret, [At.b false]))
      (.br 62 (waitC (aI l 7) (aI l 8) (aI l 9) (aI l 10) (aI l 11) (aI l 12) (aI l 13) (aI l 14) (aI l 3) v != 0)
      (.br 66 (waitC (aI l 7) (aI l 8) (aI l 9) (aI l 10) (aI l 11) (aI l 12) (aI l 13) (aI l 14) (aI l 3) v != 43)
      (.ok (Ex.ret, [At.b false]))
      (.br 68 (waitC (aI l 7) (aI l 8) (aI l 9) (aI l 10) (aI l 11) (aI l 12) (aI l 13) (aI l 14) (aI l 3) v == 0)
      (.br 73 (decide (aRn l 15 + 1 ≤ 1073741824))
      (.ok (Ex.normal, [At.n (aN l 0), At.n (aN l 1), At.b (aB l 2), At.i (aI l 3), At.i (aI l 4), At.i (IntKind.wrap IntKind.i64 (aI l 5 + 1)), At.r (aRn l 6) (aRg l 6), At.i (waitW (aI l 7) (aI l 8) (aI l 9) (aI l 10) (aI l 11) (aI l 12) (aI l 13) (aI l 14) (aI l 3) v 0), At.i (waitW (aI l 7) (aI l 8) (aI l 9) (aI l 10) (aI l 11) (aI l 12) (aI l 13) (aI l 14) (aI l 3) v 1), At.i (waitW (aI l 7) (aI l 8) (aI l 9) (aI l 10) (aI l 11) (aI l 12) (aI l 13) (aI l 14) (aI l 3) v 2), At.i (waitW (aI l 7) (aI l 8) (aI l 9) (aI l 10) (aI l 11) (aI l 12) (aI l 13) (aI l 14) (aI l 3) v 3), At.i (waitW (aI l 7) (aI l 8) (aI l 9) (aI l 10) (aI l 11) (aI l 12) (aI l 13) (aI l 14) (aI l 3) v 4), At.i (waitW (aI l 7) (aI l 8) (aI l 9) (aI l 10) (aI l 11) (aI l 12) (aI l 13) (aI l 14) (aI l 3) v 5), At.i (waitW (aI l 7) (aI l 8) (aI l 9) (aI l 10) (aI l 11) (aI l 12) (aI l 13) (aI l 14) (aI l 3) v 6), At.i (waitW (aI l 7) (aI l 8) (aI l 9) (aI l 10) (aI l 11) (aI l 12) (aI l 13) (aI l 14) (aI l 3) v 7), At.r (aRn l 15 + 1) (appG (aRg l 15) (aRn l 15) (rowsF [[v]]))]))
      .no)
      (.ok (Ex.normal, [At.n (aN l 0), At.n (aN l 1), At.b (aB l 2), At.i (aI l 3), At.i (aI l 4), At.i (IntKind.wrap IntKind.i64 (aI l 5 + 1)), At.r (aRn l 6) (aRg l 6), At.i (aI l 7), At.i (aI l 8), At.i (aI l 9), At.i (aI l 10), At.i (aI l 11), At.i (aI l 12), At.i (aI l 13), At.i (aI l 14), At.r (aRn l 15) (aRg l 15)]))))
      (.br 68 (waitC (aI l 7) (aI l 8) (aI l 9) (aI l 10) (aI l 11) (aI l 12) (aI l 13) (aI l 14) (aI l 3) v == 0)
      (.br 73 (decide (aRn l 15 + 1 ≤ 1073741824))
      (.ok (Ex.normal, [At.n (aN l 0), At.n (aN l 1), At.b (aB l 2), At.i (aI l 3), At.i (aI l 4), At.i (IntKind.wrap IntKind.i64 (aI l 5 + 1)), At.r (aRn l 6) (aRg l 6), At.i (waitW (aI l 7) (aI l 8) (aI l 9) (aI l 10) (aI l 11) (aI l 12) (aI l 13) (aI l 14) (aI l 3) v 0), At.i (waitW (aI l 7) (aI l 8) (aI l 9) (aI l 10) (aI l 11) (aI l 12) (aI l 13) (aI l 14) (aI l 3) v 1), At.i (waitW (aI l 7) (aI l 8) (aI l 9) (aI l 10) (aI l 11) (aI l 12) (aI l 13) (aI l 14) (aI l 3) v 2), At.i (waitW (aI l 7) (aI l 8) (aI l 9) (aI l 10) (aI l 11) (aI l 12) (aI l 13) (aI l 14) (aI l 3) v 3), At.i (waitW (aI l 7) (aI l 8) (aI l 9) (aI l 10) (aI l 11) (aI l 12) (aI l 13) (aI l 14) (aI l 3) v 4), At.i (waitW (aI l 7) (aI l 8) (aI l 9) (aI l 10) (aI l 11) (aI l 12) (aI l 13) (aI l 14) (aI l 3) v 5), At.i (waitW (aI l 7) (aI l 8) (aI l 9) (aI l 10) (aI l 11) (aI l 12) (aI l 13) (aI l 14) (aI l 3) v 6), At.i (waitW (aI l 7) (aI l 8) (aI l 9) (aI l 10) (aI l 11) (aI l 12) (aI l 13) (aI l 14) (aI l 3) v 7), At.r (aRn l 15 + 1) (appG (aRg l 15) (aRn l 15) (rowsF [[v]]))]))
      .no)
      (.ok (Ex.normal, [At.n (aN l 0), At.n (aN l 1), At.b (aB l 2), At.i (aI l 3), At.i (aI l 4), At.i (IntKind.wrap IntKind.i64 (aI l 5 + 1)), At.r (aRn l 6) (aRg l 6), At.i (aI l 7), At.i (aI l 8), At.i (aI l 9), At.i (aI l 10), At.i (aI l 11), At.i (aI l 12), At.i (aI l 13), At.i (aI l 14), At.r (aRn l 15) (aRg l 15)])))))
      .no).sat fun p => (p.1 = .normal ∧ ∃ l2 r', AtsEq p.2 l2 ∧ μ_IpcOrder_10 l2 < μ_IpcOrder_10 l ∧ (OL_IpcOrder_10 l2).val = some r' ∧ r'.1 = r.1 ∧ AtsEq r'.2 r.2) ∨ (p.1 ≠ .normal ∧ r.1 = p.1 ∧ AtsEq p.2 r.2) := by
    intro v hv
    rw [← hv] at hC
    rw [hC, hw]
    refine brT (decide_eq_true hR) ?_
    by_cases h7 : aRn l 15 = 7
    · rw [if_pos h7, decide_eq_false (show ¬ aI l 5 < 7 by omega)]
      refine brF rfl (brT rfl (brF rfl (brF rfl ?_)))
      refine on_ _ r (AtsEq.refl _) ?_ ?_ rfl (AtsEq.refl _)
      · show ((aN l 1 : Int) - (aI l 5 + 1)).toNat < ((aN l 1 : Int) - aI l 5).toNat
        omega
      · exact (br_t (g := 0) (pdec_yes ⟨by show 0 ≤ aI l 5 + 1; omega, by show aI l 5 + 1 ≤ aN l 1; omega, by show aI l 5 + 1 ≤ 9; omega, hm, by show aRn l 15 = min (aI l 5 + 1).toNat 7; omega, ⟨e0, e1, e2, e3, e4, e5, e6, e7⟩, hg⟩)).trans h
    · rw [if_neg h7, decide_eq_true (show aI l 5 < 7 by omega)]
      refine brF rfl (brF rfl (brT rfl (brT (decide_eq_true (by omega)) ?_)))
      have hx : 0 ≤ v ∧ v < 49 := by rw [hv]; exact hG _
      have hGc : (fun k => idv (aRg l 6 (aN l 0 + k) 0)) (aRn l 15) = v := by rw [hv, show aRn l 15 = (aI l 5).toNat by omega]
      have hW : ∀ j, waitW (aI l 7) (aI l 8) (aI l 9) (aI l 10) (aI l 11) (aI l 12) (aI l 13) (aI l 14) (aI l 3) v j = lineAt (aI l 3) (aRn l 15 + 1) (fun k => idv (aRg l 6 (aN l 0 + k) 0)) j := by
        intro j
        rw [e0, e1, e2, e3, e4, e5, e6, e7]
        exact at_waitW hm hn7 (fun k _ => hG k) hx h7 j (fun _ _ => rfl) hGc
      refine on_ _ r (AtsEq.refl _) ?_ ?_ rfl (AtsEq.refl _)
      · show ((aN l 1 : Int) - (aI l 5 + 1)).toNat < ((aN l 1 : Int) - aI l 5).toNat
        omega
      · refine (br_t (g := 0) (pdec_yes ⟨by show 0 ≤ aI l 5 + 1; omega, by show aI l 5 + 1 ≤ aN l 1; omega, by show aI l 5 + 1 ≤ 9; omega, hm, by show aRn l 15 + 1 = min (aI l 5 + 1).toNat 7; omega, ⟨hW 0, hW 1, hW 2, hW 3, hW 4, hW 5, hW 6, hW 7⟩, ?_⟩)).trans h
        intro k hk c
        show appG (aRg l 15) (aRn l 15) (rowsF [[v]]) k c = gcol (fun k => idv (aRg l 6 (aN l 0 + k) 0)) k c
        rcases Nat.lt_or_ge k (aRn l 15) with h3 | h3
        · rw [appG_lt h3]; exact hg k h3 c
        · have hk : k < aRn l 15 + 1 := hk
          obtain rfl : k = aRn l 15 := by omega
          rw [appG_at]
          cases c with
          | zero => exact hGc.symm
          | succ c => rfl
  refine brD (fun h3 => on _ ?_) (fun h3 => on _ ?_)
  · show _ = idv _
    unfold idv
    rw [if_pos h3]
  · show _ = idv _
    unfold idv
    rw [if_neg h3]
end Go.Proofs.Ytepdekambalmhaa.G
end

/-
  What the loop that gathers those who wait comes to.
-/
section
namespace Go.Proofs.Ytepdekambalmhaa.G
open Go Go.AM Go.Proofs

def pre9 (x1 : Nat) (x6 : Int) (G : Nat → Int) (n8 : Nat) (g8 : Nat → Nat → Int) : Prop :=
  0 ≤ x6 ∧ x6 ≤ x1 ∧ x6 ≤ 6 ∧ n8 = x6.toNat ∧ ∀ k, k < n8 → ∀ c, g8 k c = gcol G k c

noncomputable def O_IpcHalves_9 (x0 x1 : Nat) (x2 : Int) (x3 : Bool) (x4 x5 x6 : Int) (_n7 : Nat) (g7 : Nat → Nat → Int) (n8 : Nat) (g8 : Nat → Nat → Int) : Tr (Ex × List At) :=
  .br 0 (pdec (pre9 x1 x6 (fun k => idv (g7 (x0 + k) 0)) n8 g8)) (.ok (.exit 0, [.i x2, .b x3, .i x4, .i x5, .r (min x1 6) (gcol (fun k => idv (g7 (x0 + k) 0)))])) .no
noncomputable def OL_IpcHalves_9 (l : List At) : Tr (Ex × List At) := O_IpcHalves_9 (aN l 0) (aN l 1) (aI l 2) (aB l 3) (aI l 4) (aI l 5) (aI l 6) (aRn l 7) (aRg l 7) (aRn l 8) (aRg l 8)
def μ_IpcHalves_9 (l : List At) : Nat := ((aN l 1 : Int) - aI l 6).toNat

theorem rd_IpcHalves_9 : ∀ l r, (OL_IpcHalves_9 l).val = some r → RoundS BL_IpcHalves_9 OL_IpcHalves_9 μ_IpcHalves_9 l r := by
  intro l r h
  obtain ⟨hc, h⟩ := guard_val h
  have hp := of_pdec hc
  have hr := val_ok h
  obtain ⟨c0, c1, c2, hn, hg⟩ := hp
  unfold RoundS BL_IpcHalves_9 B_IpcHalves_9
  have stop : ¬ (aI l 6 < aN l 1 ∧ aI l 6 < 6) → (Tr.ok (Ex.exit 0, [At.i (aI l 2), At.b (aB l 3), At.i (aI l 4), At.i (aI l 5), At.r (aRn l 8) (aRg l 8)])).sat fun p => (p.1 = .normal ∧ ∃ l2 r', AtsEq p.2 l2 ∧ μ_IpcHalves_9 l2 < μ_IpcHalves_9 l ∧ (OL_IpcHalves_9 l2).val = some r' ∧ r'.1 = r.1 ∧ AtsEq r'.2 r.2) ∨ (p.1 ≠ .normal ∧ r.1 = p.1 ∧ AtsEq p.2 r.2) := by
    intro hs
    subst hr
    exact out_ (by simp) rfl (atsEq_cons (AtEq.refl _) (atsEq_cons (AtEq.refl _) (atsEq_cons (AtEq.refl _) (atsEq_cons (AtEq.refl _) (atsEq_cons (atEq_r (by omega) hg) atsEq_nil)))))
  refine brD (fun h1 => brD (fun h2 => brW (fun _ => ?_) (fun hh => by exfalso; omega)) (fun h2 => stop (by omega))) (fun h1 => stop (by omega))
  have hw : IntKind.i64.wrap (aI l 6 + 1) = aI l 6 + 1 := wrap_i64 (by omega) (by omega)
  have on : ∀ v, v = idv (aRg l 7 (aN l 0 + (aI l 6).toNat) 0) → (Tr.br 56 (decide (aRn l 8 + 1 ≤ 1073741824))
      (.ok (Ex.normal, [At.n (aN l 0), At.n (aN l 1), At.i (aI l 2), At.b (aB l 3), At.i (aI l 4), At.i (aI l 5), At.i (IntKind.wrap IntKind.i64 (aI l 6 + 1)), At.r (aRn l 7) (aRg l 7), At.r (aRn l 8 + 1) (appG (aRg l 8) (aRn l 8) (rowsF [[v]]))]))
      .no).sat fun p => (p.1 = .normal ∧ ∃ l2 r', AtsEq p.2 l2 ∧ μ_IpcHalves_9 l2 < μ_IpcHalves_9 l ∧ (OL_IpcHalves_9 l2).val = some r' ∧ r'.1 = r.1 ∧ AtsEq r'.2 r.2) ∨ (p.1 ≠ .normal ∧ r.1 = p.1 ∧ AtsEq p.2 r.2) := by
    intro v hv
    rw [hw]
    refine brT (decide_eq_true (by omega)) ?_
    refine on_ _ r (AtsEq.refl _) ?_ ?_ rfl (AtsEq.refl _)
    · show ((aN l 1 : Int) - (aI l 6 + 1)).toNat < ((aN l 1 : Int) - aI l 6).toNat
      omega
    · refine (br_t (g := 0) (pdec_yes ⟨by show 0 ≤ aI l 6 + 1; omega, by show aI l 6 + 1 ≤ aN l 1; omega, by show aI l 6 + 1 ≤ 6; omega, by show aRn l 8 + 1 = (aI l 6 + 1).toNat; omega, ?_⟩)).trans h
      intro k hk c
      show appG (aRg l 8) (aRn l 8) (rowsF [[v]]) k c = gcol (fun k => idv (aRg l 7 (aN l 0 + k) 0)) k c
      rcases Nat.lt_or_ge k (aRn l 8) with h3 | h3
      · rw [appG_lt h3]; exact hg k h3 c
      · have hk : k < aRn l 8 + 1 := hk
        obtain rfl : k = aRn l 8 := by omega
        rw [appG_at]
        cases c with
        | zero =>
          show v = idv (aRg l 7 (aN l 0 + aRn l 8) 0)
          rw [hv, hn]
        | succ c => rfl
  refine brD (fun h3 => on _ ?_) (fun h3 => on _ ?_)
  · unfold idv
    rw [if_pos h3]
  · unfold idv
    rw [if_neg h3]
end Go.Proofs.Ytepdekambalmhaa.G
end

/-
  Wait, Of, Meet on lines that stand for a list: with words that hold few words.
-/
section
namespace Go.Proofs.Ytepdekambalmhaa.G
open Go Go.AM Go.Proofs

def Ln (m : Int) (c : Nat) (G : Nat → Int) (x0 x1 x2 x3 x4 x5 x6 x7 : Int) : Prop := (m = 3 ∨ m = 4) ∧ c ≤ 7 ∧ (∀ k, k < c → 0 ≤ G k ∧ G k < 49) ∧ x0 = lineAt m c G 0 ∧ x1 = lineAt m c G 1 ∧ x2 = lineAt m c G 2 ∧ x3 = lineAt m c G 3 ∧ x4 = lineAt m c G 4 ∧ x5 = lineAt m c G 5 ∧ x6 = lineAt m c G 6 ∧ x7 = lineAt m c G 7
def nx (x0 x9 x : Int) (k : Nat) : Int := if k < cnt x0 then x else if k = cnt x0 then x9 else 0
def mx (x0 x8 x : Int) (k : Nat) : Int := bif decide (x0 % 16 ≠ x8) then (if k + 1 < cnt x0 then x else 0) else 0

def gW (x0 x1 x2 x3 x4 x5 x6 x7 x8 x9 : Int) : Prop := ∃ c G, Ln x8 c G x0 x1 x2 x3 x4 x5 x6 x7 ∧ c ≠ 7 ∧ 0 ≤ x9 ∧ x9 < 49
def gO (x0 x1 x2 x3 x4 x5 x6 x7 : Int) : Prop := ∃ m c G, Ln m c G x0 x1 x2 x3 x4 x5 x6 x7
def gM (x0 x1 x2 x3 x4 x5 x6 x7 x8 : Int) : Prop := ∃ m c G, Ln m c G x0 x1 x2 x3 x4 x5 x6 x7 ∧ c ≠ 0 ∧ (x8 = 3 ∨ x8 = 4)

theorem tW {x0 x1 x2 x3 x4 x5 x6 x7 x8 x9 : Int} (h : gW x0 x1 x2 x3 x4 x5 x6 x7 x8 x9) : ([.i (waitW x0 x1 x2 x3 x4 x5 x6 x7 x8 x9 0), .i (waitW x0 x1 x2 x3 x4 x5 x6 x7 x8 x9 1), .i (waitW x0 x1 x2 x3 x4 x5 x6 x7 x8 x9 2), .i (waitW x0 x1 x2 x3 x4 x5 x6 x7 x8 x9 3), .i (waitW x0 x1 x2 x3 x4 x5 x6 x7 x8 x9 4), .i (waitW x0 x1 x2 x3 x4 x5 x6 x7 x8 x9 5), .i (waitW x0 x1 x2 x3 x4 x5 x6 x7 x8 x9 6), .i (waitW x0 x1 x2 x3 x4 x5 x6 x7 x8 x9 7), .i (waitC x0 x1 x2 x3 x4 x5 x6 x7 x8 x9)] : List At) = [.i (x8 + 16 * ((cnt x0 + 1 : Nat) : Int)), .i (nx x0 x9 x1 0), .i (nx x0 x9 x2 1), .i (nx x0 x9 x3 2), .i (nx x0 x9 x4 3), .i (nx x0 x9 x5 4), .i (nx x0 x9 x6 5), .i (nx x0 x9 x7 6), .i 0] ∧ Rng x0 x1 x2 x3 x4 x5 x6 x7 := by
  obtain ⟨c, G, ⟨hm, hc, hG, rfl, rfl, rfl, rfl, rfl, rfl, rfl, rfl⟩, h7, ha, hb⟩ := h
  refine ⟨?_, at_rng hm hc hG⟩
  have hW := fun j => at_waitW hm hc hG ⟨ha, hb⟩ h7 j (G' := fun k => if k < c then G k else x9) (fun k hk => if_pos hk) (if_neg (Nat.lt_irrefl c))
  have key : ∀ k, lineAt x8 (c + 1) (fun k => if k < c then G k else x9) (k + 1) = if k < c then lineAt x8 c G (k + 1) else if k = c then x9 else 0 := by
    intro k
    rw [lineAt_s, lineAt_s]
    by_cases h1 : k < c
    · rw [if_pos (by omega), if_pos h1, if_pos h1, if_pos h1]
    · rw [if_neg h1, if_neg h1]
      by_cases h2 : k = c
      · rw [if_pos (by omega), if_pos h2]
      · rw [if_neg (by omega), if_neg h2]
  unfold nx
  rw [hW 0, hW 1, hW 2, hW 3, hW 4, hW 5, hW 6, hW 7, at_wait hm hc hG ⟨ha, hb⟩, if_neg h7, (at_cnt hm hc (G := G)).1, lineAt_0 (Nat.succ_ne_zero c), key 0, key 1, key 2, key 3, key 4, key 5, key 6]
theorem tO {x0 x1 x2 x3 x4 x5 x6 x7 : Int} (h : gO x0 x1 x2 x3 x4 x5 x6 x7) : ofR x0 x1 x2 x3 x4 x5 x6 x7 = [.i (x0 % 16), .b true, .r (cnt x0) (gRows x1 x2 x3 x4 x5 x6 x7)] ∧ Rng x0 x1 x2 x3 x4 x5 x6 x7 := by
  obtain ⟨m, c, G, ⟨hm, hc, hG, rfl, rfl, rfl, rfl, rfl, rfl, rfl, rfl⟩⟩ := h
  refine ⟨?_, at_rng hm hc hG⟩
  unfold ofR
  rw [at_gate hm hc hG]
  rfl
theorem tM {x0 x1 x2 x3 x4 x5 x6 x7 x8 : Int} (h : gM x0 x1 x2 x3 x4 x5 x6 x7 x8) : ([.i (meetI x0 x1 x2 x3 x4 x5 x6 x7 x8), .i (meetW x0 x1 x2 x3 x4 x5 x6 x7 x8 0), .i (meetW x0 x1 x2 x3 x4 x5 x6 x7 x8 1), .i (meetW x0 x1 x2 x3 x4 x5 x6 x7 x8 2), .i (meetW x0 x1 x2 x3 x4 x5 x6 x7 x8 3), .i (meetW x0 x1 x2 x3 x4 x5 x6 x7 x8 4), .i (meetW x0 x1 x2 x3 x4 x5 x6 x7 x8 5), .i (meetW x0 x1 x2 x3 x4 x5 x6 x7 x8 6), .i (meetW x0 x1 x2 x3 x4 x5 x6 x7 x8 7), .b (meetB x0 x1 x2 x3 x4 x5 x6 x7 x8)] : List At) = [.i (bif decide (x0 % 16 ≠ x8) then x1 else 0), .i (bif decide (x0 % 16 ≠ x8) then (if cnt x0 = 1 then 0 else x0 - 16) else 0), .i (mx x0 x8 x2 0), .i (mx x0 x8 x3 1), .i (mx x0 x8 x4 2), .i (mx x0 x8 x5 3), .i (mx x0 x8 x6 4), .i (mx x0 x8 x7 5), .i 0, .b (decide (x0 % 16 ≠ x8))] ∧ Rng x0 x1 x2 x3 x4 x5 x6 x7 := by
  obtain ⟨m, c, G, ⟨hm, hc, hG, rfl, rfl, rfl, rfl, rfl, rfl, rfl, rfl⟩, h0, h8⟩ := h
  refine ⟨?_, at_rng hm hc hG⟩
  obtain ⟨e1, e2⟩ := at_cnt hm hc (G := G)
  rw [if_neg h0] at e2
  unfold mx
  rw [e1, e2]
  by_cases hx : m = x8
  · subst hx
    unfold meetI meetW
    rw [at_same hm hc (G := G), decide_eq_false (by simp)]
    rfl
  · have ho : (x8 = 3 ∨ x8 = 4) ∧ x8 ≠ m := ⟨h8, fun e => hx e.symm⟩
    have hW := fun j => at_meetW hm hc hG ho h0 j (G' := fun k => G (k + 1)) (fun k _ => rfl)
    have key : ∀ k, lineAt m (c - 1) (fun k => G (k + 1)) (k + 1) = if k + 1 < c then lineAt m c G (k + 2) else 0 := by
      intro k
      rw [lineAt_s, lineAt_s]
      by_cases h1 : k + 1 < c
      · rw [if_pos (by omega), if_pos h1, if_pos h1]
      · rw [if_neg (by omega), if_neg h1]
    have k6 : lineAt m (c - 1) (fun k => G (k + 1)) 7 = 0 := by
      rw [lineAt_s 6, if_neg (by omega)]
    have k0 : lineAt m (c - 1) (fun k => G (k + 1)) 0 = if c = 1 then 0 else lineAt m c G 0 - 16 := by
      by_cases h1 : c = 1
      · subst h1; rfl
      · rw [if_neg h1, lineAt_0 (show c - 1 ≠ 0 by omega), lineAt_0 h0]; omega
    have k1 : lineAt m c G 1 = G 0 := by rw [lineAt_s 0, if_pos (by omega)]
    rw [hW 0, hW 1, hW 2, hW 3, hW 4, hW 5, hW 6, hW 7, at_meetI hm hc hG ho h0, at_meet hm hc hG ho, decide_eq_true h0, decide_eq_true hx, k0, key 0, key 1, key 2, key 3, key 4, key 5, k6, k1]
    rfl

noncomputable def F3_Wait (l : List At) : Tr (List At) := .br 0 (pdec (gW (aI l 0) (aI l 1) (aI l 2) (aI l 3) (aI l 4) (aI l 5) (aI l 6) (aI l 7) (aI l 8) (aI l 9))) (.ok [.i ((aI l 8) + 16 * ((cnt (aI l 0) + 1 : Nat) : Int)), .i (nx (aI l 0) (aI l 9) (aI l 1) 0), .i (nx (aI l 0) (aI l 9) (aI l 2) 1), .i (nx (aI l 0) (aI l 9) (aI l 3) 2), .i (nx (aI l 0) (aI l 9) (aI l 4) 3), .i (nx (aI l 0) (aI l 9) (aI l 5) 4), .i (nx (aI l 0) (aI l 9) (aI l 6) 5), .i (nx (aI l 0) (aI l 9) (aI l 7) 6), .i 0]) .no
noncomputable def F3_Of (l : List At) : Tr (List At) := .br 0 (pdec (gO (aI l 0) (aI l 1) (aI l 2) (aI l 3) (aI l 4) (aI l 5) (aI l 6) (aI l 7))) (.ok [.i ((aI l 0) % 16), .b true, .r (cnt (aI l 0)) (gRows (aI l 1) (aI l 2) (aI l 3) (aI l 4) (aI l 5) (aI l 6) (aI l 7))]) .no
noncomputable def F3_Meet (l : List At) : Tr (List At) := .br 0 (pdec (gM (aI l 0) (aI l 1) (aI l 2) (aI l 3) (aI l 4) (aI l 5) (aI l 6) (aI l 7) (aI l 8))) (.ok [.i (bif decide ((aI l 0) % 16 ≠ (aI l 8)) then (aI l 1) else 0), .i (bif decide ((aI l 0) % 16 ≠ (aI l 8)) then (if cnt (aI l 0) = 1 then 0 else (aI l 0) - 16) else 0), .i (mx (aI l 0) (aI l 8) (aI l 2) 0), .i (mx (aI l 0) (aI l 8) (aI l 3) 1), .i (mx (aI l 0) (aI l 8) (aI l 4) 2), .i (mx (aI l 0) (aI l 8) (aI l 5) 3), .i (mx (aI l 0) (aI l 8) (aI l 6) 4), .i (mx (aI l 0) (aI l 8) (aI l 7) 5), .i 0, .b (decide ((aI l 0) % 16 ≠ (aI l 8)))]) .no
theorem w3_gWait : ∀ l r, (F3_Wait l).val = some r → (F2_Wait l).val = some r := by
  intro l r h
  obtain ⟨hc, h⟩ := guard_val h
  obtain ⟨e1, e2⟩ := tW (of_pdec hc)
  rw [← e1] at h
  exact (br_t (g := 0) (decide_eq_true e2)).trans h
theorem s3_gWait : SpecF Try.prog 13 (.eff (locF ish_gWait osh_gWait F3_Wait)) :=
  spec_loc (sy := y_gWait) (fuel := 100) (Lp := noLoops) o_S4 mixed ⟨Try.func13, by kernel_rfl, by kernel_rfl⟩ ish_gWait osh_gWait (noLoops_ok _) fun l r h => h_gWait l r (w3_gWait l r h)
theorem w3_gOf : ∀ l r, (F3_Of l).val = some r → (F2_Of l).val = some r := by
  intro l r h
  obtain ⟨hc, h⟩ := guard_val h
  obtain ⟨e1, e2⟩ := tO (of_pdec hc)
  rw [← e1] at h
  exact (br_t (g := 0) (decide_eq_true e2)).trans h
theorem s3_gOf : SpecF Try.prog 10 (.eff (locF ish_gOf osh_gOf F3_Of)) :=
  spec_loc (sy := y_gOf) (fuel := 100) (Lp := noLoops) o_S3 mixed ⟨Try.func10, by kernel_rfl, by kernel_rfl⟩ ish_gOf osh_gOf (noLoops_ok _) fun l r h => h_gOf l r (w3_gOf l r h)
theorem w3_gMeet : ∀ l r, (F3_Meet l).val = some r → (F2_Meet l).val = some r := by
  intro l r h
  obtain ⟨hc, h⟩ := guard_val h
  obtain ⟨e1, e2⟩ := tM (of_pdec hc)
  rw [← e1] at h
  exact (br_t (g := 0) (decide_eq_true e2)).trans h
theorem s3_gMeet : SpecF Try.prog 15 (.eff (locF ish_gMeet osh_gMeet F3_Meet)) :=
  spec_loc (sy := y_gMeet) (fuel := 100) (Lp := noLoops) o_rWait mixed ⟨Try.func15, by kernel_rfl, by kernel_rfl⟩ ish_gMeet osh_gMeet (noLoops_ok _) fun l r h => h_gMeet l r (w3_gMeet l r h)
noncomputable def Γ_S7 : Specs := (upd (upd (upd Γ_shown 13 (.eff (locF ish_gWait osh_gWait F3_Wait))) 10 (.eff (locF ish_gOf osh_gOf F3_Of))) 15 (.eff (locF ish_gMeet osh_gMeet F3_Meet)))
theorem o_S7 : SpecOK Try.prog Γ_S7 := (SpecOK.upd (SpecOK.upd (SpecOK.upd o_shown s3_gWait) s3_gOf) s3_gMeet)
end Go.Proofs.Ytepdekambalmhaa.G
end

/-
  What functions of the seat compute, printed by a program from the explorer.
-/
section
namespace Go.Proofs.Ytepdekambalmhaa.G
open Go Go.AM Go.Proofs
theorem f_IpcHalves_9 : LoopF Try.prog 1 (loopAt Try.f6 9) (loopFn 1 lsh_IpcHalves_9 xs_IpcHalves_9 OL_IpcHalves_9) :=
  loop_sat (sy := y_IpcHalves_9) (fuel := 100) (Lp := noLoops) o_shown mixed (loopsOK_at (noLoops_ok _) 9) rfl eB_IpcHalves_9 rd_IpcHalves_9
noncomputable def Lp_IpcHalves_9 : Loops := Loops.set noLoops 9 (loopFn 1 lsh_IpcHalves_9 xs_IpcHalves_9 OL_IpcHalves_9)
theorem lk_IpcHalves_9 : LoopsFn Try.prog 1 Lp_IpcHalves_9 Try.f6 := loopsFn_set (noLoops_ok _) (by kernel_rfl) f_IpcHalves_9

end Go.Proofs.Ytepdekambalmhaa.G
end

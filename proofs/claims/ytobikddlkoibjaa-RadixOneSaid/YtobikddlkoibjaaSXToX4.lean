/-
  A leaf's line: the code's and the reference's, in the same words.
-/
import Derived.Test.YtobikddlkoibjaaX1
import Derived.Test.YtobikddlkoibjaaAn5ToAnR
import Derived.KernelRfl
section
namespace Go.Proofs.Ytobikddlkoibjaa.G
open Go Go.AM Go.Proofs

def entAt (K V L : List Int) (k : Int) (i : Nat) : Bool := entOk (K.getD (7 * k.toNat + i) 0) (V.getD (7 * k.toNat + i) 0) (L.getD (7 * k.toNat + i) 0)
def entAtV (K V L : List Int) (k : Int) (i : Nat) : Int := entV (K.getD (7 * k.toNat + i) 0) (V.getD (7 * k.toNat + i) 0) (L.getD (7 * k.toNat + i) 0)
def leafOk (K V L : List Int) (k : Int) : Bool := decide (0 ≤ k ∧ k < 7) && (entAt K V L k 0 && entAt K V L k 1 && entAt K V L k 2 && entAt K V L k 3 && entAt K V L k 4 && entAt K V L k 5 && entAt K V L k 6)
def leafSeal (K V L : List Int) (k : Int) : Int := sealI (entAtV K V L k 0) (entAtV K V L k 1) (entAtV K V L k 2) (entAtV K V L k 3) (entAtV K V L k 4) (entAtV K V L k 5) (entAtV K V L k 6)
def leafW (K V L : List Int) (k : Int) (j : Nat) : Int := bif leafOk K V L k then (if j < 7 then entAtV K V L k j else leafSeal K V L k) else 0
def leafE (K V L : List Int) (k : Int) : Int := bif leafOk K V L k then 0 else 1

def leafT (l1 l2 l3 l4 : Nat) (e : Int → Int) (K V L : List Int) (k : Int) : Tr (List At) :=
 .br l1 (decide (k < 0)) (.ok [.i 0, .i 0, .i 0, .i 0, .i 0, .i 0, .i 0, .i 0, .i 1])
 (.br l2 (decide (k ≥ 7)) (.ok [.i 0, .i 0, .i 0, .i 0, .i 0, .i 0, .i 0, .i 0, .i 1])
 (.br l3 (within (IntKind.wrap IntKind.i64 (IntKind.wrap IntKind.i64 ((7 : Int) * k) + (0 : Int))) 49)
 (.br l4 ((entE (List.getD K (Int.toNat (IntKind.wrap IntKind.i64 (IntKind.wrap IntKind.i64 ((7 : Int) * k) + (0 : Int)))) 0) (List.getD V (Int.toNat (IntKind.wrap IntKind.i64 (IntKind.wrap IntKind.i64 ((7 : Int) * k) + (0 : Int)))) 0) (List.getD L (Int.toNat (IntKind.wrap IntKind.i64 (IntKind.wrap IntKind.i64 ((7 : Int) * k) + (0 : Int)))) 0)) != 0) (.ok [.i 0, .i 0, .i 0, .i 0, .i 0, .i 0, .i 0, .i 0, .i (e (entE (List.getD K (Int.toNat (IntKind.wrap IntKind.i64 (IntKind.wrap IntKind.i64 ((7 : Int) * k) + (0 : Int)))) 0) (List.getD V (Int.toNat (IntKind.wrap IntKind.i64 (IntKind.wrap IntKind.i64 ((7 : Int) * k) + (0 : Int)))) 0) (List.getD L (Int.toNat (IntKind.wrap IntKind.i64 (IntKind.wrap IntKind.i64 ((7 : Int) * k) + (0 : Int)))) 0)))])
 (.br l3 (within (IntKind.wrap IntKind.i64 (IntKind.wrap IntKind.i64 ((7 : Int) * k) + (1 : Int))) 49)
 (.br l4 ((entE (List.getD K (Int.toNat (IntKind.wrap IntKind.i64 (IntKind.wrap IntKind.i64 ((7 : Int) * k) + (1 : Int)))) 0) (List.getD V (Int.toNat (IntKind.wrap IntKind.i64 (IntKind.wrap IntKind.i64 ((7 : Int) * k) + (1 : Int)))) 0) (List.getD L (Int.toNat (IntKind.wrap IntKind.i64 (IntKind.wrap IntKind.i64 ((7 : Int) * k) + (1 : Int)))) 0)) != 0) (.ok [.i 0, .i 0, .i 0, .i 0, .i 0, .i 0, .i 0, .i 0, .i (e (entE (List.getD K (Int.toNat (IntKind.wrap IntKind.i64 (IntKind.wrap IntKind.i64 ((7 : Int) * k) + (1 : Int)))) 0) (List.getD V (Int.toNat (IntKind.wrap IntKind.i64 (IntKind.wrap IntKind.i64 ((7 : Int) * k) + (1 : Int)))) 0) (List.getD L (Int.toNat (IntKind.wrap IntKind.i64 (IntKind.wrap IntKind.i64 ((7 : Int) * k) + (1 : Int)))) 0)))])
 (.br l3 (within (IntKind.wrap IntKind.i64 (IntKind.wrap IntKind.i64 ((7 : Int) * k) + (2 : Int))) 49)
 (.br l4 ((entE (List.getD K (Int.toNat (IntKind.wrap IntKind.i64 (IntKind.wrap IntKind.i64 ((7 : Int) * k) + (2 : Int)))) 0) (List.getD V (Int.toNat (IntKind.wrap IntKind.i64 (IntKind.wrap IntKind.i64 ((7 : Int) * k) + (2 : Int)))) 0) (List.getD L (Int.toNat (IntKind.wrap IntKind.i64 (IntKind.wrap IntKind.i64 ((7 : Int) * k) + (2 : Int)))) 0)) != 0) (.ok [.i 0, .i 0, .i 0, .i 0, .i 0, .i 0, .i 0, .i 0, .i (e (entE (List.getD K (Int.toNat (IntKind.wrap IntKind.i64 (IntKind.wrap IntKind.i64 ((7 : Int) * k) + (2 : Int)))) 0) (List.getD V (Int.toNat (IntKind.wrap IntKind.i64 (IntKind.wrap IntKind.i64 ((7 : Int) * k) + (2 : Int)))) 0) (List.getD L (Int.toNat (IntKind.wrap IntKind.i64 (IntKind.wrap IntKind.i64 ((7 : Int) * k) + (2 : Int)))) 0)))])
 (.br l3 (within (IntKind.wrap IntKind.i64 (IntKind.wrap IntKind.i64 ((7 : Int) * k) + (3 : Int))) 49)
 (.br l4 ((entE (List.getD K (Int.toNat (IntKind.wrap IntKind.i64 (IntKind.wrap IntKind.i64 ((7 : Int) * k) + (3 : Int)))) 0) (List.getD V (Int.toNat (IntKind.wrap IntKind.i64 (IntKind.wrap IntKind.i64 ((7 : Int) * k) + (3 : Int)))) 0) (List.getD L (Int.toNat (IntKind.wrap IntKind.i64 (IntKind.wrap IntKind.i64 ((7 : Int) * k) + (3 : Int)))) 0)) != 0) (.ok [.i 0, .i 0, .i 0, .i 0, .i 0, .i 0, .i 0, .i 0, .i (e (entE (List.getD K (Int.toNat (IntKind.wrap IntKind.i64 (IntKind.wrap IntKind.i64 ((7 : Int) * k) + (3 : Int)))) 0) (List.getD V (Int.toNat (IntKind.wrap IntKind.i64 (IntKind.wrap IntKind.i64 ((7 : Int) * k) + (3 : Int)))) 0) (List.getD L (Int.toNat (IntKind.wrap IntKind.i64 (IntKind.wrap IntKind.i64 ((7 : Int) * k) + (3 : Int)))) 0)))])
 (.br l3 (within (IntKind.wrap IntKind.i64 (IntKind.wrap IntKind.i64 ((7 : Int) * k) + (4 : Int))) 49)
 (.br l4 ((entE (List.getD K (Int.toNat (IntKind.wrap IntKind.i64 (IntKind.wrap IntKind.i64 ((7 : Int) * k) + (4 : Int)))) 0) (List.getD V (Int.toNat (IntKind.wrap IntKind.i64 (IntKind.wrap IntKind.i64 ((7 : Int) * k) + (4 : Int)))) 0) (List.getD L (Int.toNat (IntKind.wrap IntKind.i64 (IntKind.wrap IntKind.i64 ((7 : Int) * k) + (4 : Int)))) 0)) != 0) (.ok [.i 0, .i 0, .i 0, .i 0, .i 0, .i 0, .i 0, .i 0, .i (e (entE (List.getD K (Int.toNat (IntKind.wrap IntKind.i64 (IntKind.wrap IntKind.i64 ((7 : Int) * k) + (4 : Int)))) 0) (List.getD V (Int.toNat (IntKind.wrap IntKind.i64 (IntKind.wrap IntKind.i64 ((7 : Int) * k) + (4 : Int)))) 0) (List.getD L (Int.toNat (IntKind.wrap IntKind.i64 (IntKind.wrap IntKind.i64 ((7 : Int) * k) + (4 : Int)))) 0)))])
 (.br l3 (within (IntKind.wrap IntKind.i64 (IntKind.wrap IntKind.i64 ((7 : Int) * k) + (5 : Int))) 49)
 (.br l4 ((entE (List.getD K (Int.toNat (IntKind.wrap IntKind.i64 (IntKind.wrap IntKind.i64 ((7 : Int) * k) + (5 : Int)))) 0) (List.getD V (Int.toNat (IntKind.wrap IntKind.i64 (IntKind.wrap IntKind.i64 ((7 : Int) * k) + (5 : Int)))) 0) (List.getD L (Int.toNat (IntKind.wrap IntKind.i64 (IntKind.wrap IntKind.i64 ((7 : Int) * k) + (5 : Int)))) 0)) != 0) (.ok [.i 0, .i 0, .i 0, .i 0, .i 0, .i 0, .i 0, .i 0, .i (e (entE (List.getD K (Int.toNat (IntKind.wrap IntKind.i64 (IntKind.wrap IntKind.i64 ((7 : Int) * k) + (5 : Int)))) 0) (List.getD V (Int.toNat (IntKind.wrap IntKind.i64 (IntKind.wrap IntKind.i64 ((7 : Int) * k) + (5 : Int)))) 0) (List.getD L (Int.toNat (IntKind.wrap IntKind.i64 (IntKind.wrap IntKind.i64 ((7 : Int) * k) + (5 : Int)))) 0)))])
 (.br l3 (within (IntKind.wrap IntKind.i64 (IntKind.wrap IntKind.i64 ((7 : Int) * k) + (6 : Int))) 49)
 (.br l4 ((entE (List.getD K (Int.toNat (IntKind.wrap IntKind.i64 (IntKind.wrap IntKind.i64 ((7 : Int) * k) + (6 : Int)))) 0) (List.getD V (Int.toNat (IntKind.wrap IntKind.i64 (IntKind.wrap IntKind.i64 ((7 : Int) * k) + (6 : Int)))) 0) (List.getD L (Int.toNat (IntKind.wrap IntKind.i64 (IntKind.wrap IntKind.i64 ((7 : Int) * k) + (6 : Int)))) 0)) != 0) (.ok [.i 0, .i 0, .i 0, .i 0, .i 0, .i 0, .i 0, .i 0, .i (e (entE (List.getD K (Int.toNat (IntKind.wrap IntKind.i64 (IntKind.wrap IntKind.i64 ((7 : Int) * k) + (6 : Int)))) 0) (List.getD V (Int.toNat (IntKind.wrap IntKind.i64 (IntKind.wrap IntKind.i64 ((7 : Int) * k) + (6 : Int)))) 0) (List.getD L (Int.toNat (IntKind.wrap IntKind.i64 (IntKind.wrap IntKind.i64 ((7 : Int) * k) + (6 : Int)))) 0)))])
 (.br 0 (decide (0 ≤ (entW (List.getD K (Int.toNat (IntKind.wrap IntKind.i64 (IntKind.wrap IntKind.i64 ((7 : Int) * k) + (0 : Int)))) 0) (List.getD V (Int.toNat (IntKind.wrap IntKind.i64 (IntKind.wrap IntKind.i64 ((7 : Int) * k) + (0 : Int)))) 0) (List.getD L (Int.toNat (IntKind.wrap IntKind.i64 (IntKind.wrap IntKind.i64 ((7 : Int) * k) + (0 : Int)))) 0)) ∧ 0 ≤ (entW (List.getD K (Int.toNat (IntKind.wrap IntKind.i64 (IntKind.wrap IntKind.i64 ((7 : Int) * k) + (1 : Int)))) 0) (List.getD V (Int.toNat (IntKind.wrap IntKind.i64 (IntKind.wrap IntKind.i64 ((7 : Int) * k) + (1 : Int)))) 0) (List.getD L (Int.toNat (IntKind.wrap IntKind.i64 (IntKind.wrap IntKind.i64 ((7 : Int) * k) + (1 : Int)))) 0)) ∧ 0 ≤ (entW (List.getD K (Int.toNat (IntKind.wrap IntKind.i64 (IntKind.wrap IntKind.i64 ((7 : Int) * k) + (2 : Int)))) 0) (List.getD V (Int.toNat (IntKind.wrap IntKind.i64 (IntKind.wrap IntKind.i64 ((7 : Int) * k) + (2 : Int)))) 0) (List.getD L (Int.toNat (IntKind.wrap IntKind.i64 (IntKind.wrap IntKind.i64 ((7 : Int) * k) + (2 : Int)))) 0)) ∧ 0 ≤ (entW (List.getD K (Int.toNat (IntKind.wrap IntKind.i64 (IntKind.wrap IntKind.i64 ((7 : Int) * k) + (3 : Int)))) 0) (List.getD V (Int.toNat (IntKind.wrap IntKind.i64 (IntKind.wrap IntKind.i64 ((7 : Int) * k) + (3 : Int)))) 0) (List.getD L (Int.toNat (IntKind.wrap IntKind.i64 (IntKind.wrap IntKind.i64 ((7 : Int) * k) + (3 : Int)))) 0)) ∧ 0 ≤ (entW (List.getD K (Int.toNat (IntKind.wrap IntKind.i64 (IntKind.wrap IntKind.i64 ((7 : Int) * k) + (4 : Int)))) 0) (List.getD V (Int.toNat (IntKind.wrap IntKind.i64 (IntKind.wrap IntKind.i64 ((7 : Int) * k) + (4 : Int)))) 0) (List.getD L (Int.toNat (IntKind.wrap IntKind.i64 (IntKind.wrap IntKind.i64 ((7 : Int) * k) + (4 : Int)))) 0)) ∧ 0 ≤ (entW (List.getD K (Int.toNat (IntKind.wrap IntKind.i64 (IntKind.wrap IntKind.i64 ((7 : Int) * k) + (5 : Int)))) 0) (List.getD V (Int.toNat (IntKind.wrap IntKind.i64 (IntKind.wrap IntKind.i64 ((7 : Int) * k) + (5 : Int)))) 0) (List.getD L (Int.toNat (IntKind.wrap IntKind.i64 (IntKind.wrap IntKind.i64 ((7 : Int) * k) + (5 : Int)))) 0)) ∧ 0 ≤ (entW (List.getD K (Int.toNat (IntKind.wrap IntKind.i64 (IntKind.wrap IntKind.i64 ((7 : Int) * k) + (6 : Int)))) 0) (List.getD V (Int.toNat (IntKind.wrap IntKind.i64 (IntKind.wrap IntKind.i64 ((7 : Int) * k) + (6 : Int)))) 0) (List.getD L (Int.toNat (IntKind.wrap IntKind.i64 (IntKind.wrap IntKind.i64 ((7 : Int) * k) + (6 : Int)))) 0)))) (.ok [.i (entW (List.getD K (Int.toNat (IntKind.wrap IntKind.i64 (IntKind.wrap IntKind.i64 ((7 : Int) * k) + (0 : Int)))) 0) (List.getD V (Int.toNat (IntKind.wrap IntKind.i64 (IntKind.wrap IntKind.i64 ((7 : Int) * k) + (0 : Int)))) 0) (List.getD L (Int.toNat (IntKind.wrap IntKind.i64 (IntKind.wrap IntKind.i64 ((7 : Int) * k) + (0 : Int)))) 0)), .i (entW (List.getD K (Int.toNat (IntKind.wrap IntKind.i64 (IntKind.wrap IntKind.i64 ((7 : Int) * k) + (1 : Int)))) 0) (List.getD V (Int.toNat (IntKind.wrap IntKind.i64 (IntKind.wrap IntKind.i64 ((7 : Int) * k) + (1 : Int)))) 0) (List.getD L (Int.toNat (IntKind.wrap IntKind.i64 (IntKind.wrap IntKind.i64 ((7 : Int) * k) + (1 : Int)))) 0)), .i (entW (List.getD K (Int.toNat (IntKind.wrap IntKind.i64 (IntKind.wrap IntKind.i64 ((7 : Int) * k) + (2 : Int)))) 0) (List.getD V (Int.toNat (IntKind.wrap IntKind.i64 (IntKind.wrap IntKind.i64 ((7 : Int) * k) + (2 : Int)))) 0) (List.getD L (Int.toNat (IntKind.wrap IntKind.i64 (IntKind.wrap IntKind.i64 ((7 : Int) * k) + (2 : Int)))) 0)), .i (entW (List.getD K (Int.toNat (IntKind.wrap IntKind.i64 (IntKind.wrap IntKind.i64 ((7 : Int) * k) + (3 : Int)))) 0) (List.getD V (Int.toNat (IntKind.wrap IntKind.i64 (IntKind.wrap IntKind.i64 ((7 : Int) * k) + (3 : Int)))) 0) (List.getD L (Int.toNat (IntKind.wrap IntKind.i64 (IntKind.wrap IntKind.i64 ((7 : Int) * k) + (3 : Int)))) 0)), .i (entW (List.getD K (Int.toNat (IntKind.wrap IntKind.i64 (IntKind.wrap IntKind.i64 ((7 : Int) * k) + (4 : Int)))) 0) (List.getD V (Int.toNat (IntKind.wrap IntKind.i64 (IntKind.wrap IntKind.i64 ((7 : Int) * k) + (4 : Int)))) 0) (List.getD L (Int.toNat (IntKind.wrap IntKind.i64 (IntKind.wrap IntKind.i64 ((7 : Int) * k) + (4 : Int)))) 0)), .i (entW (List.getD K (Int.toNat (IntKind.wrap IntKind.i64 (IntKind.wrap IntKind.i64 ((7 : Int) * k) + (5 : Int)))) 0) (List.getD V (Int.toNat (IntKind.wrap IntKind.i64 (IntKind.wrap IntKind.i64 ((7 : Int) * k) + (5 : Int)))) 0) (List.getD L (Int.toNat (IntKind.wrap IntKind.i64 (IntKind.wrap IntKind.i64 ((7 : Int) * k) + (5 : Int)))) 0)), .i (entW (List.getD K (Int.toNat (IntKind.wrap IntKind.i64 (IntKind.wrap IntKind.i64 ((7 : Int) * k) + (6 : Int)))) 0) (List.getD V (Int.toNat (IntKind.wrap IntKind.i64 (IntKind.wrap IntKind.i64 ((7 : Int) * k) + (6 : Int)))) 0) (List.getD L (Int.toNat (IntKind.wrap IntKind.i64 (IntKind.wrap IntKind.i64 ((7 : Int) * k) + (6 : Int)))) 0)), .i (sealI (entW (List.getD K (Int.toNat (IntKind.wrap IntKind.i64 (IntKind.wrap IntKind.i64 ((7 : Int) * k) + (0 : Int)))) 0) (List.getD V (Int.toNat (IntKind.wrap IntKind.i64 (IntKind.wrap IntKind.i64 ((7 : Int) * k) + (0 : Int)))) 0) (List.getD L (Int.toNat (IntKind.wrap IntKind.i64 (IntKind.wrap IntKind.i64 ((7 : Int) * k) + (0 : Int)))) 0)) (entW (List.getD K (Int.toNat (IntKind.wrap IntKind.i64 (IntKind.wrap IntKind.i64 ((7 : Int) * k) + (1 : Int)))) 0) (List.getD V (Int.toNat (IntKind.wrap IntKind.i64 (IntKind.wrap IntKind.i64 ((7 : Int) * k) + (1 : Int)))) 0) (List.getD L (Int.toNat (IntKind.wrap IntKind.i64 (IntKind.wrap IntKind.i64 ((7 : Int) * k) + (1 : Int)))) 0)) (entW (List.getD K (Int.toNat (IntKind.wrap IntKind.i64 (IntKind.wrap IntKind.i64 ((7 : Int) * k) + (2 : Int)))) 0) (List.getD V (Int.toNat (IntKind.wrap IntKind.i64 (IntKind.wrap IntKind.i64 ((7 : Int) * k) + (2 : Int)))) 0) (List.getD L (Int.toNat (IntKind.wrap IntKind.i64 (IntKind.wrap IntKind.i64 ((7 : Int) * k) + (2 : Int)))) 0)) (entW (List.getD K (Int.toNat (IntKind.wrap IntKind.i64 (IntKind.wrap IntKind.i64 ((7 : Int) * k) + (3 : Int)))) 0) (List.getD V (Int.toNat (IntKind.wrap IntKind.i64 (IntKind.wrap IntKind.i64 ((7 : Int) * k) + (3 : Int)))) 0) (List.getD L (Int.toNat (IntKind.wrap IntKind.i64 (IntKind.wrap IntKind.i64 ((7 : Int) * k) + (3 : Int)))) 0)) (entW (List.getD K (Int.toNat (IntKind.wrap IntKind.i64 (IntKind.wrap IntKind.i64 ((7 : Int) * k) + (4 : Int)))) 0) (List.getD V (Int.toNat (IntKind.wrap IntKind.i64 (IntKind.wrap IntKind.i64 ((7 : Int) * k) + (4 : Int)))) 0) (List.getD L (Int.toNat (IntKind.wrap IntKind.i64 (IntKind.wrap IntKind.i64 ((7 : Int) * k) + (4 : Int)))) 0)) (entW (List.getD K (Int.toNat (IntKind.wrap IntKind.i64 (IntKind.wrap IntKind.i64 ((7 : Int) * k) + (5 : Int)))) 0) (List.getD V (Int.toNat (IntKind.wrap IntKind.i64 (IntKind.wrap IntKind.i64 ((7 : Int) * k) + (5 : Int)))) 0) (List.getD L (Int.toNat (IntKind.wrap IntKind.i64 (IntKind.wrap IntKind.i64 ((7 : Int) * k) + (5 : Int)))) 0)) (entW (List.getD K (Int.toNat (IntKind.wrap IntKind.i64 (IntKind.wrap IntKind.i64 ((7 : Int) * k) + (6 : Int)))) 0) (List.getD V (Int.toNat (IntKind.wrap IntKind.i64 (IntKind.wrap IntKind.i64 ((7 : Int) * k) + (6 : Int)))) 0) (List.getD L (Int.toNat (IntKind.wrap IntKind.i64 (IntKind.wrap IntKind.i64 ((7 : Int) * k) + (6 : Int)))) 0))), .i 0]) .no)) .no)) .no)) .no)) .no)) .no)) .no)) .no))

theorem leaf_no {K V L : List Int} {k : Int} (h : leafOk K V L k = false) {c : Int} (hc : c = 1) : ([.i 0, .i 0, .i 0, .i 0, .i 0, .i 0, .i 0, .i 0, .i c] : List At) = [.i (leafW K V L k 0), .i (leafW K V L k 1), .i (leafW K V L k 2), .i (leafW K V L k 3), .i (leafW K V L k 4), .i (leafW K V L k 5), .i (leafW K V L k 6), .i (leafW K V L k 7), .i (leafE K V L k)] := by
  subst hc
  unfold leafW leafE
  rw [h]; rfl

theorem entW_lo (x0 x1 x2 : Int) : 0 ≤ entW x0 x1 x2 ∧ entW x0 x1 x2 < 18446744073709551616 := by
  unfold entW
  cases h : entOk x0 x1 x2 with
  | false => simp only [cond_false]; omega
  | true =>
    have h := of_decide_eq_true h
    simp only [cond_true]
    unfold entV
    omega
theorem entE_one {x0 x1 x2 : Int} (h : entE x0 x1 x2 ≠ 0) : entOk x0 x1 x2 = false ∧ entE x0 x1 x2 = 1 := by
  unfold entE at h ⊢
  cases hk : entOk x0 x1 x2 with
  | false => exact ⟨rfl, rfl⟩
  | true => rw [hk] at h; exact (h rfl).elim
theorem entE_zero {x0 x1 x2 : Int} (h : entE x0 x1 x2 = 0) : entOk x0 x1 x2 = true ∧ entW x0 x1 x2 = entV x0 x1 x2 := by
  unfold entE at h
  unfold entW
  cases hk : entOk x0 x1 x2 with
  | false => rw [hk] at h; cases h
  | true => exact ⟨rfl, rfl⟩

theorem t_leaf (l1 l2 l3 l4 : Nat) (e : Int → Int) (he : e 1 = 1) (K V L : List Int) (k : Int) : (leafT l1 l2 l3 l4 e K V L k).sat fun r => r = [.i (leafW K V L k 0), .i (leafW K V L k 1), .i (leafW K V L k 2), .i (leafW K V L k 3), .i (leafW K V L k 4), .i (leafW K V L k 5), .i (leafW K V L k 6), .i (leafW K V L k 7), .i (leafE K V L k)] := by
  unfold leafT
  refine brD (fun h => Tr.sat_ok.2 (leaf_no (by unfold leafOk; rw [decide_eq_false (by omega)]; rfl) rfl)) (fun h0 => ?_)
  refine brD (fun h => Tr.sat_ok.2 (leaf_no (by unfold leafOk; rw [decide_eq_false (by omega)]; rfl) rfl)) (fun h1 => ?_)
  have hk : decide (0 ≤ k ∧ k < 7) = true := decide_eq_true (by omega)
  have w0 : IntKind.wrap IntKind.i64 (IntKind.wrap IntKind.i64 ((7 : Int) * k) + (0 : Int)) = 7 * k + 0 := by rw [wrap_i64 (x := 7 * k) (by omega) (by omega), wrap_i64 (by omega) (by omega)]
  have i0 : Int.toNat (7 * k + 0) = 7 * k.toNat + 0 := by omega
  have w1 : IntKind.wrap IntKind.i64 (IntKind.wrap IntKind.i64 ((7 : Int) * k) + (1 : Int)) = 7 * k + 1 := by rw [wrap_i64 (x := 7 * k) (by omega) (by omega), wrap_i64 (by omega) (by omega)]
  have i1 : Int.toNat (7 * k + 1) = 7 * k.toNat + 1 := by omega
  have w2 : IntKind.wrap IntKind.i64 (IntKind.wrap IntKind.i64 ((7 : Int) * k) + (2 : Int)) = 7 * k + 2 := by rw [wrap_i64 (x := 7 * k) (by omega) (by omega), wrap_i64 (by omega) (by omega)]
  have i2 : Int.toNat (7 * k + 2) = 7 * k.toNat + 2 := by omega
  have w3 : IntKind.wrap IntKind.i64 (IntKind.wrap IntKind.i64 ((7 : Int) * k) + (3 : Int)) = 7 * k + 3 := by rw [wrap_i64 (x := 7 * k) (by omega) (by omega), wrap_i64 (by omega) (by omega)]
  have i3 : Int.toNat (7 * k + 3) = 7 * k.toNat + 3 := by omega
  have w4 : IntKind.wrap IntKind.i64 (IntKind.wrap IntKind.i64 ((7 : Int) * k) + (4 : Int)) = 7 * k + 4 := by rw [wrap_i64 (x := 7 * k) (by omega) (by omega), wrap_i64 (by omega) (by omega)]
  have i4 : Int.toNat (7 * k + 4) = 7 * k.toNat + 4 := by omega
  have w5 : IntKind.wrap IntKind.i64 (IntKind.wrap IntKind.i64 ((7 : Int) * k) + (5 : Int)) = 7 * k + 5 := by rw [wrap_i64 (x := 7 * k) (by omega) (by omega), wrap_i64 (by omega) (by omega)]
  have i5 : Int.toNat (7 * k + 5) = 7 * k.toNat + 5 := by omega
  have w6 : IntKind.wrap IntKind.i64 (IntKind.wrap IntKind.i64 ((7 : Int) * k) + (6 : Int)) = 7 * k + 6 := by rw [wrap_i64 (x := 7 * k) (by omega) (by omega), wrap_i64 (by omega) (by omega)]
  have i6 : Int.toNat (7 * k + 6) = 7 * k.toNat + 6 := by omega
  rw [w0, w1, w2, w3, w4, w5, w6, i0, i1, i2, i3, i4, i5, i6]
  refine brW (fun _ => ?_) (fun h => by exfalso; omega)
  refine brNE (fun h => Tr.sat_ok.2 (leaf_no (by unfold leafOk entAt; rw [(entE_one h).1]; simp) (by rw [(entE_one h).2, he]))) (fun h => ?_)
  obtain ⟨o0, v0⟩ := entE_zero h
  clear h
  refine brW (fun _ => ?_) (fun h => by exfalso; omega)
  refine brNE (fun h => Tr.sat_ok.2 (leaf_no (by unfold leafOk entAt; rw [o0, (entE_one h).1]; simp) (by rw [(entE_one h).2, he]))) (fun h => ?_)
  obtain ⟨o1, v1⟩ := entE_zero h
  clear h
  refine brW (fun _ => ?_) (fun h => by exfalso; omega)
  refine brNE (fun h => Tr.sat_ok.2 (leaf_no (by unfold leafOk entAt; rw [o0, o1, (entE_one h).1]; simp) (by rw [(entE_one h).2, he]))) (fun h => ?_)
  obtain ⟨o2, v2⟩ := entE_zero h
  clear h
  refine brW (fun _ => ?_) (fun h => by exfalso; omega)
  refine brNE (fun h => Tr.sat_ok.2 (leaf_no (by unfold leafOk entAt; rw [o0, o1, o2, (entE_one h).1]; simp) (by rw [(entE_one h).2, he]))) (fun h => ?_)
  obtain ⟨o3, v3⟩ := entE_zero h
  clear h
  refine brW (fun _ => ?_) (fun h => by exfalso; omega)
  refine brNE (fun h => Tr.sat_ok.2 (leaf_no (by unfold leafOk entAt; rw [o0, o1, o2, o3, (entE_one h).1]; simp) (by rw [(entE_one h).2, he]))) (fun h => ?_)
  obtain ⟨o4, v4⟩ := entE_zero h
  clear h
  refine brW (fun _ => ?_) (fun h => by exfalso; omega)
  refine brNE (fun h => Tr.sat_ok.2 (leaf_no (by unfold leafOk entAt; rw [o0, o1, o2, o3, o4, (entE_one h).1]; simp) (by rw [(entE_one h).2, he]))) (fun h => ?_)
  obtain ⟨o5, v5⟩ := entE_zero h
  clear h
  refine brW (fun _ => ?_) (fun h => by exfalso; omega)
  refine brNE (fun h => Tr.sat_ok.2 (leaf_no (by unfold leafOk entAt; rw [o0, o1, o2, o3, o4, o5, (entE_one h).1]; simp) (by rw [(entE_one h).2, he]))) (fun h => ?_)
  obtain ⟨o6, v6⟩ := entE_zero h
  clear h
  have hok : leafOk K V L k = true := by
    unfold leafOk entAt
    rw [hk, o0, o1, o2, o3, o4, o5, o6]; rfl
  refine brT (decide_eq_true ⟨(entW_lo _ _ _).1, (entW_lo _ _ _).1, (entW_lo _ _ _).1, (entW_lo _ _ _).1, (entW_lo _ _ _).1, (entW_lo _ _ _).1, (entW_lo _ _ _).1⟩) (Tr.sat_ok.2 ?_)
  unfold leafW leafE leafSeal entAtV
  rw [hok, v0, v1, v2, v3, v4, v5, v6]
  rfl

def colK (x0 x3 x6 x9 x12 x15 x18 x21 x24 x27 x30 x33 x36 x39 x42 x45 x48 x51 x54 x57 x60 x63 x66 x69 x72 x75 x78 x81 x84 x87 x90 x93 x96 x99 x102 x105 x108 x111 x114 x117 x120 x123 x126 x129 x132 x135 x138 x141 x144 : Int) : List Int := [x0, x3, x6, x9, x12, x15, x18, x21, x24, x27, x30, x33, x36, x39, x42, x45, x48, x51, x54, x57, x60, x63, x66, x69, x72, x75, x78, x81, x84, x87, x90, x93, x96, x99, x102, x105, x108, x111, x114, x117, x120, x123, x126, x129, x132, x135, x138, x141, x144]
def colV (x1 x4 x7 x10 x13 x16 x19 x22 x25 x28 x31 x34 x37 x40 x43 x46 x49 x52 x55 x58 x61 x64 x67 x70 x73 x76 x79 x82 x85 x88 x91 x94 x97 x100 x103 x106 x109 x112 x115 x118 x121 x124 x127 x130 x133 x136 x139 x142 x145 : Int) : List Int := [x1, x4, x7, x10, x13, x16, x19, x22, x25, x28, x31, x34, x37, x40, x43, x46, x49, x52, x55, x58, x61, x64, x67, x70, x73, x76, x79, x82, x85, x88, x91, x94, x97, x100, x103, x106, x109, x112, x115, x118, x121, x124, x127, x130, x133, x136, x139, x142, x145]
def colL (x2 x5 x8 x11 x14 x17 x20 x23 x26 x29 x32 x35 x38 x41 x44 x47 x50 x53 x56 x59 x62 x65 x68 x71 x74 x77 x80 x83 x86 x89 x92 x95 x98 x101 x104 x107 x110 x113 x116 x119 x122 x125 x128 x131 x134 x137 x140 x143 x146 : Int) : List Int := [x2, x5, x8, x11, x14, x17, x20, x23, x26, x29, x32, x35, x38, x41, x44, x47, x50, x53, x56, x59, x62, x65, x68, x71, x74, x77, x80, x83, x86, x89, x92, x95, x98, x101, x104, x107, x110, x113, x116, x119, x122, x125, x128, x131, x134, x137, x140, x143, x146]

def F2_Leaf (l : List At) : Tr (List At) := .ok [.i (leafW (colK (aI l 0) (aI l 3) (aI l 6) (aI l 9) (aI l 12) (aI l 15) (aI l 18) (aI l 21) (aI l 24) (aI l 27) (aI l 30) (aI l 33) (aI l 36) (aI l 39) (aI l 42) (aI l 45) (aI l 48) (aI l 51) (aI l 54) (aI l 57) (aI l 60) (aI l 63) (aI l 66) (aI l 69) (aI l 72) (aI l 75) (aI l 78) (aI l 81) (aI l 84) (aI l 87) (aI l 90) (aI l 93) (aI l 96) (aI l 99) (aI l 102) (aI l 105) (aI l 108) (aI l 111) (aI l 114) (aI l 117) (aI l 120) (aI l 123) (aI l 126) (aI l 129) (aI l 132) (aI l 135) (aI l 138) (aI l 141) (aI l 144)) (colV (aI l 1) (aI l 4) (aI l 7) (aI l 10) (aI l 13) (aI l 16) (aI l 19) (aI l 22) (aI l 25) (aI l 28) (aI l 31) (aI l 34) (aI l 37) (aI l 40) (aI l 43) (aI l 46) (aI l 49) (aI l 52) (aI l 55) (aI l 58) (aI l 61) (aI l 64) (aI l 67) (aI l 70) (aI l 73) (aI l 76) (aI l 79) (aI l 82) (aI l 85) (aI l 88) (aI l 91) (aI l 94) (aI l 97) (aI l 100) (aI l 103) (aI l 106) (aI l 109) (aI l 112) (aI l 115) (aI l 118) (aI l 121) (aI l 124) (aI l 127) (aI l 130) (aI l 133) (aI l 136) (aI l 139) (aI l 142) (aI l 145)) (colL (aI l 2) (aI l 5) (aI l 8) (aI l 11) (aI l 14) (aI l 17) (aI l 20) (aI l 23) (aI l 26) (aI l 29) (aI l 32) (aI l 35) (aI l 38) (aI l 41) (aI l 44) (aI l 47) (aI l 50) (aI l 53) (aI l 56) (aI l 59) (aI l 62) (aI l 65) (aI l 68) (aI l 71) (aI l 74) (aI l 77) (aI l 80) (aI l 83) (aI l 86) (aI l 89) (aI l 92) (aI l 95) (aI l 98) (aI l 101) (aI l 104) (aI l 107) (aI l 110) (aI l 113) (aI l 116) (aI l 119) (aI l 122) (aI l 125) (aI l 128) (aI l 131) (aI l 134) (aI l 137) (aI l 140) (aI l 143) (aI l 146)) (aI l 147) 0), .i (leafW (colK (aI l 0) (aI l 3) (aI l 6) (aI l 9) (aI l 12) (aI l 15) (aI l 18) (aI l 21) (aI l 24) (aI l 27) (aI l 30) (aI l 33) (aI l 36) (aI l 39) (aI l 42) (aI l 45) (aI l 48) (aI l 51) (aI l 54) (aI l 57) (aI l 60) (aI l 63) (aI l 66) (aI l 69) (aI l 72) (aI l 75) (aI l 78) (aI l 81) (aI l 84) (aI l 87) (aI l 90) (aI l 93) (aI l 96) (aI l 99) (aI l 102) (aI l 105) (aI l 108) (aI l 111) (aI l 114) (aI l 117) (aI l 120) (aI l 123) (aI l 126) (aI l 129) (aI l 132) (aI l 135) (aI l 138) (aI l 141) (aI l 144)) (colV (aI l 1) (aI l 4) (aI l 7) (aI l 10) (aI l 13) (aI l 16) (aI l 19) (aI l 22) (aI l 25) (aI l 28) (aI l 31) (aI l 34) (aI l 37) (aI l 40) (aI l 43) (aI l 46) (aI l 49) (aI l 52) (aI l 55) (aI l 58) (aI l 61) (aI l 64) (aI l 67) (aI l 70) (aI l 73) (aI l 76) (aI l 79) (aI l 82) (aI l 85) (aI l 88) (aI l 91) (aI l 94) (aI l 97) (aI l 100) (aI l 103) (aI l 106) (aI l 109) (aI l 112) (aI l 115) (aI l 118) (aI l 121) (aI l 124) (aI l 127) (aI l 130) (aI l 133) (aI l 136) (aI l 139) (aI l 142) (aI l 145)) (colL (aI l 2) (aI l 5) (aI l 8) (aI l 11) (aI l 14) (aI l 17) (aI l 20) (aI l 23) (aI l 26) (aI l 29) (aI l 32) (aI l 35) (aI l 38) (aI l 41) (aI l 44) (aI l 47) (aI l 50) (aI l 53) (aI l 56) (aI l 59) (aI l 62) (aI l 65) (aI l 68) (aI l 71) (aI l 74) (aI l 77) (aI l 80) (aI l 83) (aI l 86) (aI l 89) (aI l 92) (aI l 95) (aI l 98) (aI l 101) (aI l 104) (aI l 107) (aI l 110) (aI l 113) (aI l 116) (aI l 119) (aI l 122) (aI l 125) (aI l 128) (aI l 131) (aI l 134) (aI l 137) (aI l 140) (aI l 143) (aI l 146)) (aI l 147) 1), .i (leafW (colK (aI l 0) (aI l 3) (aI l 6) (aI l 9) (aI l 12) (aI l 15) (aI l 18) (aI l 21) (aI l 24) (aI l 27) (aI l 30) (aI l 33) (aI l 36) (aI l 39) (aI l 42) (aI l 45) (aI l 48) (aI l 51) (aI l 54) (aI l 57) (aI l 60) (aI l 63) (aI l 66) (aI l 69) (aI l 72) (aI l 75) (aI l 78) (aI l 81) (aI l 84) (aI l 87) (aI l 90) (aI l 93) (aI l 96) (aI l 99) (aI l 102) (aI l 105) (aI l 108) (aI l 111) (aI l 114) (aI l 117) (aI l 120) (aI l 123) (aI l 126) (aI l 129) (aI l 132) (aI l 135) (aI l 138) (aI l 141) (aI l 144)) (colV (aI l 1) (aI l 4) (aI l 7) (aI l 10) (aI l 13) (aI l 16) (aI l 19) (aI l 22) (aI l 25) (aI l 28) (aI l 31) (aI l 34) (aI l 37) (aI l 40) (aI l 43) (aI l 46) (aI l 49) (aI l 52) (aI l 55) (aI l 58) (aI l 61) (aI l 64) (aI l 67) (aI l 70) (aI l 73) (aI l 76) (aI l 79) (aI l 82) (aI l 85) (aI l 88) (aI l 91) (aI l 94) (aI l 97) (aI l 100) (aI l 103) (aI l 106) (aI l 109) (aI l 112) (aI l 115) (aI l 118) (aI l 121) (aI l 124) (aI l 127) (aI l 130) (aI l 133) (aI l 136) (aI l 139) (aI l 142) (aI l 145)) (colL (aI l 2) (aI l 5) (aI l 8) (aI l 11) (aI l 14) (aI l 17) (aI l 20) (aI l 23) (aI l 26) (aI l 29) (aI l 32) (aI l 35) (aI l 38) (aI l 41) (aI l 44) (aI l 47) (aI l 50) (aI l 53) (aI l 56) (aI l 59) (aI l 62) (aI l 65) (aI l 68) (aI l 71) (aI l 74) (aI l 77) (aI l 80) (aI l 83) (aI l 86) (aI l 89) (aI l 92) (aI l 95) (aI l 98) (aI l 101) (aI l 104) (aI l 107) (aI l 110) (aI l 113) (aI l 116) (aI l 119) (aI l 122) (aI l 125) (aI l 128) (aI l 131) (aI l 134) (aI l 137) (aI l 140) (aI l 143) (aI l 146)) (aI l 147) 2), .i (leafW (colK (aI l 0) (aI l 3) (aI l 6) (aI l 9) (aI l 12) (aI l 15) (aI l 18) (aI l 21) (aI l 24) (aI l 27) (aI l 30) (aI l 33) (aI l 36) (aI l 39) (aI l 42) (aI l 45) (aI l 48) (aI l 51) (aI l 54) (aI l 57) (aI l 60) (aI l 63) (aI l 66) (aI l 69) (aI l 72) (aI l 75) (aI l 78) (aI l 81) (aI l 84) (aI l 87) (aI l 90) (aI l 93) (aI l 96) (aI l 99) (aI l 102) (aI l 105) (aI l 108) (aI l 111) (aI l 114) (aI l 117) (aI l 120) (aI l 123) (aI l 126) (aI l 129) (aI l 132) (aI l 135) (aI l 138) (aI l 141) (aI l 144)) (colV (aI l 1) (aI l 4) (aI l 7) (aI l 10) (aI l 13) (aI l 16) (aI l 19) (aI l 22) (aI l 25) (aI l 28) (aI l 31) (aI l 34) (aI l 37) (aI l 40) (aI l 43) (aI l 46) (aI l 49) (aI l 52) (aI l 55) (aI l 58) (aI l 61) (aI l 64) (aI l 67) (aI l 70) (aI l 73) (aI l 76) (aI l 79) (aI l 82) (aI l 85) (aI l 88) (aI l 91) (aI l 94) (aI l 97) (aI l 100) (aI l 103) (aI l 106) (aI l 109) (aI l 112) (aI l 115) (aI l 118) (aI l 121) (aI l 124) (aI l 127) (aI l 130) (aI l 133) (aI l 136) (aI l 139) (aI l 142) (aI l 145)) (colL (aI l 2) (aI l 5) (aI l 8) (aI l 11) (aI l 14) (aI l 17) (aI l 20) (aI l 23) (aI l 26) (aI l 29) (aI l 32) (aI l 35) (aI l 38) (aI l 41) (aI l 44) (aI l 47) (aI l 50) (aI l 53) (aI l 56) (aI l 59) (aI l 62) (aI l 65) (aI l 68) (aI l 71) (aI l 74) (aI l 77) (aI l 80) (aI l 83) (aI l 86) (aI l 89) (aI l 92) (aI l 95) (aI l 98) (aI l 101) (aI l 104) (aI l 107) (aI l 110) (aI l 113) (aI l 116) (aI l 119) (aI l 122) (aI l 125) (aI l 128) (aI l 131) (aI l 134) (aI l 137) (aI l 140) (aI l 143) (aI l 146)) (aI l 147) 3), .i (leafW (colK (aI l 0) (aI l 3) (aI l 6) (aI l 9) (aI l 12) (aI l 15) (aI l 18) (aI l 21) (aI l 24) (aI l 27) (aI l 30) (aI l 33) (aI l 36) (aI l 39) (aI l 42) (aI l 45) (aI l 48) (aI l 51) (aI l 54) (aI l 57) (aI l 60) (aI l 63) (aI l 66) (aI l 69) (aI l 72) (aI l 75) (aI l 78) (aI l 81) (aI l 84) (aI l 87) (aI l 90) (aI l 93) (aI l 96) (aI l 99) (aI l 102) (aI l 105) (aI l 108) (aI l 111) (aI l 114) (aI l 117) (aI l 120) (aI l 123) (aI l 126) (aI l 129) (aI l 132) (aI l 135) (aI l 138) (aI l 141) (aI l 144)) (colV (aI l 1) (aI l 4) (aI l 7) (aI l 10) (aI l 13) (aI l 16) (aI l 19) (aI l 22) (aI l 25) (aI l 28) (aI l 31) (aI l 34) (aI l 37) (aI l 40) (aI l 43) (aI l 46) (aI l 49) (aI l 52) (aI l 55) (aI l 58) (aI l 61) (aI l 64) (aI l 67) (aI l 70) (aI l 73) (aI l 76) (aI l 79) (aI l 82) (aI l 85) (aI l 88) (aI l 91) (aI l 94) (aI l 97) (aI l 100) (aI l 103) (aI l 106) (aI l 109) (aI l 112) (aI l 115) (aI l 118) (aI l 121) (aI l 124) (aI l 127) (aI l 130) (aI l 133) (aI l 136) (aI l 139) (aI l 142) (aI l 145)) (colL (aI l 2) (aI l 5) (aI l 8) (aI l 11) (aI l 14) (aI l 17) (aI l 20) (aI l 23) (aI l 26) (aI l 29) (aI l 32) (aI l 35) (aI l 38) (aI l 41) (aI l 44) (aI l 47) (aI l 50) (aI l 53) (aI l 56) (aI l 59) (aI l 62) (aI l 65) (aI l 68) (aI l 71) (aI l 74) (aI l 77) (aI l 80) (aI l 83) (aI l 86) (aI l 89) (aI l 92) (aI l 95) (aI l 98) (aI l 101) (aI l 104) (aI l 107) (aI l 110) (aI l 113) (aI l 116) (aI l 119) (aI l 122) (aI l 125) (aI l 128) (aI l 131) (aI l 134) (aI l 137) (aI l 140) (aI l 143) (aI l 146)) (aI l 147) 4), .i (leafW (colK (aI l 0) (aI l 3) (aI l 6) (aI l 9) (aI l 12) (aI l 15) (aI l 18) (aI l 21) (aI l 24) (aI l 27) (aI l 30) (aI l 33) (aI l 36) (aI l 39) (aI l 42) (aI l 45) (aI l 48) (aI l 51) (aI l 54) (aI l 57) (aI l 60) (aI l 63) (aI l 66) (aI l 69) (aI l 72) (aI l 75) (aI l 78) (aI l 81) (aI l 84) (aI l 87) (aI l 90) (aI l 93) (aI l 96) (aI l 99) (aI l 102) (aI l 105) (aI l 108) (aI l 111) (aI l 114) (aI l 117) (aI l 120) (aI l 123) (aI l 126) (aI l 129) (aI l 132) (aI l 135) (aI l 138) (aI l 141) (aI l 144)) (colV (aI l 1) (aI l 4) (aI l 7) (aI l 10) (aI l 13) (aI l 16) (aI l 19) (aI l 22) (aI l 25) (aI l 28) (aI l 31) (aI l 34) (aI l 37) (aI l 40) (aI l 43) (aI l 46) (aI l 49) (aI l 52) (aI l 55) (aI l 58) (aI l 61) (aI l 64) (aI l 67) (aI l 70) (aI l 73) (aI l 76) (aI l 79) (aI l 82) (aI l 85) (aI l 88) (aI l 91) (aI l 94) (aI l 97) (aI l 100) (aI l 103) (aI l 106) (aI l 109) (aI l 112) (aI l 115) (aI l 118) (aI l 121) (aI l 124) (aI l 127) (aI l 130) (aI l 133) (aI l 136) (aI l 139) (aI l 142) (aI l 145)) (colL (aI l 2) (aI l 5) (aI l 8) (aI l 11) (aI l 14) (aI l 17) (aI l 20) (aI l 23) (aI l 26) (aI l 29) (aI l 32) (aI l 35) (aI l 38) (aI l 41) (aI l 44) (aI l 47) (aI l 50) (aI l 53) (aI l 56) (aI l 59) (aI l 62) (aI l 65) (aI l 68) (aI l 71) (aI l 74) (aI l 77) (aI l 80) (aI l 83) (aI l 86) (aI l 89) (aI l 92) (aI l 95) (aI l 98) (aI l 101) (aI l 104) (aI l 107) (aI l 110) (aI l 113) (aI l 116) (aI l 119) (aI l 122) (aI l 125) (aI l 128) (aI l 131) (aI l 134) (aI l 137) (aI l 140) (aI l 143) (aI l 146)) (aI l 147) 5), .i (leafW (colK (aI l 0) (aI l 3) (aI l 6) (aI l 9) (aI l 12) (aI l 15) (aI l 18) (aI l 21) (aI l 24) (aI l 27) (aI l 30) (aI l 33) (aI l 36) (aI l 39) (aI l 42) (aI l 45) (aI l 48) (aI l 51) (aI l 54) (aI l 57) (aI l 60) (aI l 63) (aI l 66) (aI l 69) (aI l 72) (aI l 75) (aI l 78) (aI l 81) (aI l 84) (aI l 87) (aI l 90) (aI l 93) (aI l 96) (aI l 99) (aI l 102) (aI l 105) (aI l 108) (aI l 111) (aI l 114) (aI l 117) (aI l 120) (aI l 123) (aI l 126) (aI l 129) (aI l 132) (aI l 135) (aI l 138) (aI l 141) (aI l 144)) (colV (aI l 1) (aI l 4) (aI l 7) (aI l 10) (aI l 13) (aI l 16) (aI l 19) (aI l 22) (aI l 25) (aI l 28) (aI l 31) (aI l 34) (aI l 37) (aI l 40) (aI l 43) (aI l 46) (aI l 49) (aI l 52) (aI l 55) (aI l 58) (aI l 61) (aI l 64) (aI l 67) (aI l 70) (aI l 73) (aI l 76) (aI l 79) (aI l 82) (aI l 85) (aI l 88) (aI l 91) (aI l 94) (aI l 97) (aI l 100) (aI l 103) (aI l 106) (aI l 109) (aI l 112) (aI l 115) (aI l 118) (aI l 121) (aI l 124) (aI l 127) (aI l 130) (aI l 133) (aI l 136) (aI l 139) (aI l 142) (aI l 145)) (colL (aI l 2) (aI l 5) (aI l 8) (aI l 11) (aI l 14) (aI l 17) (aI l 20) (aI l 23) (aI l 26) (aI l 29) (aI l 32) (aI l 35) (aI l 38) (aI l 41) (aI l 44) (aI l 47) (aI l 50) (aI l 53) (aI l 56) (aI l 59) (aI l 62) (aI l 65) (aI l 68) (aI l 71) (aI l 74) (aI l 77) (aI l 80) (aI l 83) (aI l 86) (aI l 89) (aI l 92) (aI l 95) (aI l 98) (aI l 101) (aI l 104) (aI l 107) (aI l 110) (aI l 113) (aI l 116) (aI l 119) (aI l 122) (aI l 125) (aI l 128) (aI l 131) (aI l 134) (aI l 137) (aI l 140) (aI l 143) (aI l 146)) (aI l 147) 6), .i (leafW (colK (aI l 0) (aI l 3) (aI l 6) (aI l 9) (aI l 12) (aI l 15) (aI l 18) (aI l 21) (aI l 24) (aI l 27) (aI l 30) (aI l 33) (aI l 36) (aI l 39) (aI l 42) (aI l 45) (aI l 48) (aI l 51) (aI l 54) (aI l 57) (aI l 60) (aI l 63) (aI l 66) (aI l 69) (aI l 72) (aI l 75) (aI l 78) (aI l 81) (aI l 84) (aI l 87) (aI l 90) (aI l 93) (aI l 96) (aI l 99) (aI l 102) (aI l 105) (aI l 108) (aI l 111) (aI l 114) (aI l 117) (aI l 120) (aI l 123) (aI l 126) (aI l 129) (aI l 132) (aI l 135) (aI l 138) (aI l 141) (aI l 144)) (colV (aI l 1) (aI l 4) (aI l 7) (aI l 10) (aI l 13) (aI l 16) (aI l 19) (aI l 22) (aI l 25) (aI l 28) (aI l 31) (aI l 34) (aI l 37) (aI l 40) (aI l 43) (aI l 46) (aI l 49) (aI l 52) (aI l 55) (aI l 58) (aI l 61) (aI l 64) (aI l 67) (aI l 70) (aI l 73) (aI l 76) (aI l 79) (aI l 82) (aI l 85) (aI l 88) (aI l 91) (aI l 94) (aI l 97) (aI l 100) (aI l 103) (aI l 106) (aI l 109) (aI l 112) (aI l 115) (aI l 118) (aI l 121) (aI l 124) (aI l 127) (aI l 130) (aI l 133) (aI l 136) (aI l 139) (aI l 142) (aI l 145)) (colL (aI l 2) (aI l 5) (aI l 8) (aI l 11) (aI l 14) (aI l 17) (aI l 20) (aI l 23) (aI l 26) (aI l 29) (aI l 32) (aI l 35) (aI l 38) (aI l 41) (aI l 44) (aI l 47) (aI l 50) (aI l 53) (aI l 56) (aI l 59) (aI l 62) (aI l 65) (aI l 68) (aI l 71) (aI l 74) (aI l 77) (aI l 80) (aI l 83) (aI l 86) (aI l 89) (aI l 92) (aI l 95) (aI l 98) (aI l 101) (aI l 104) (aI l 107) (aI l 110) (aI l 113) (aI l 116) (aI l 119) (aI l 122) (aI l 125) (aI l 128) (aI l 131) (aI l 134) (aI l 137) (aI l 140) (aI l 143) (aI l 146)) (aI l 147) 7), .i (leafE (colK (aI l 0) (aI l 3) (aI l 6) (aI l 9) (aI l 12) (aI l 15) (aI l 18) (aI l 21) (aI l 24) (aI l 27) (aI l 30) (aI l 33) (aI l 36) (aI l 39) (aI l 42) (aI l 45) (aI l 48) (aI l 51) (aI l 54) (aI l 57) (aI l 60) (aI l 63) (aI l 66) (aI l 69) (aI l 72) (aI l 75) (aI l 78) (aI l 81) (aI l 84) (aI l 87) (aI l 90) (aI l 93) (aI l 96) (aI l 99) (aI l 102) (aI l 105) (aI l 108) (aI l 111) (aI l 114) (aI l 117) (aI l 120) (aI l 123) (aI l 126) (aI l 129) (aI l 132) (aI l 135) (aI l 138) (aI l 141) (aI l 144)) (colV (aI l 1) (aI l 4) (aI l 7) (aI l 10) (aI l 13) (aI l 16) (aI l 19) (aI l 22) (aI l 25) (aI l 28) (aI l 31) (aI l 34) (aI l 37) (aI l 40) (aI l 43) (aI l 46) (aI l 49) (aI l 52) (aI l 55) (aI l 58) (aI l 61) (aI l 64) (aI l 67) (aI l 70) (aI l 73) (aI l 76) (aI l 79) (aI l 82) (aI l 85) (aI l 88) (aI l 91) (aI l 94) (aI l 97) (aI l 100) (aI l 103) (aI l 106) (aI l 109) (aI l 112) (aI l 115) (aI l 118) (aI l 121) (aI l 124) (aI l 127) (aI l 130) (aI l 133) (aI l 136) (aI l 139) (aI l 142) (aI l 145)) (colL (aI l 2) (aI l 5) (aI l 8) (aI l 11) (aI l 14) (aI l 17) (aI l 20) (aI l 23) (aI l 26) (aI l 29) (aI l 32) (aI l 35) (aI l 38) (aI l 41) (aI l 44) (aI l 47) (aI l 50) (aI l 53) (aI l 56) (aI l 59) (aI l 62) (aI l 65) (aI l 68) (aI l 71) (aI l 74) (aI l 77) (aI l 80) (aI l 83) (aI l 86) (aI l 89) (aI l 92) (aI l 95) (aI l 98) (aI l 101) (aI l 104) (aI l 107) (aI l 110) (aI l 113) (aI l 116) (aI l 119) (aI l 122) (aI l 125) (aI l 128) (aI l 131) (aI l 134) (aI l 137) (aI l 140) (aI l 143) (aI l 146)) (aI l 147))]

theorem x_gLeaf (l : List At) : TL_gLeaf l = leafT 12 15 200025 31 (fun x => x) (colK (aI l 0) (aI l 3) (aI l 6) (aI l 9) (aI l 12) (aI l 15) (aI l 18) (aI l 21) (aI l 24) (aI l 27) (aI l 30) (aI l 33) (aI l 36) (aI l 39) (aI l 42) (aI l 45) (aI l 48) (aI l 51) (aI l 54) (aI l 57) (aI l 60) (aI l 63) (aI l 66) (aI l 69) (aI l 72) (aI l 75) (aI l 78) (aI l 81) (aI l 84) (aI l 87) (aI l 90) (aI l 93) (aI l 96) (aI l 99) (aI l 102) (aI l 105) (aI l 108) (aI l 111) (aI l 114) (aI l 117) (aI l 120) (aI l 123) (aI l 126) (aI l 129) (aI l 132) (aI l 135) (aI l 138) (aI l 141) (aI l 144)) (colV (aI l 1) (aI l 4) (aI l 7) (aI l 10) (aI l 13) (aI l 16) (aI l 19) (aI l 22) (aI l 25) (aI l 28) (aI l 31) (aI l 34) (aI l 37) (aI l 40) (aI l 43) (aI l 46) (aI l 49) (aI l 52) (aI l 55) (aI l 58) (aI l 61) (aI l 64) (aI l 67) (aI l 70) (aI l 73) (aI l 76) (aI l 79) (aI l 82) (aI l 85) (aI l 88) (aI l 91) (aI l 94) (aI l 97) (aI l 100) (aI l 103) (aI l 106) (aI l 109) (aI l 112) (aI l 115) (aI l 118) (aI l 121) (aI l 124) (aI l 127) (aI l 130) (aI l 133) (aI l 136) (aI l 139) (aI l 142) (aI l 145)) (colL (aI l 2) (aI l 5) (aI l 8) (aI l 11) (aI l 14) (aI l 17) (aI l 20) (aI l 23) (aI l 26) (aI l 29) (aI l 32) (aI l 35) (aI l 38) (aI l 41) (aI l 44) (aI l 47) (aI l 50) (aI l 53) (aI l 56) (aI l 59) (aI l 62) (aI l 65) (aI l 68) (aI l 71) (aI l 74) (aI l 77) (aI l 80) (aI l 83) (aI l 86) (aI l 89) (aI l 92) (aI l 95) (aI l 98) (aI l 101) (aI l 104) (aI l 107) (aI l 110) (aI l 113) (aI l 116) (aI l 119) (aI l 122) (aI l 125) (aI l 128) (aI l 131) (aI l 134) (aI l 137) (aI l 140) (aI l 143) (aI l 146)) (aI l 147) := by kernel_rfl
theorem x_rLeaf (l : List At) : TL_rLeaf l = leafT 13 16 200027 33 (fun _ => 1) (colK (aI l 0) (aI l 3) (aI l 6) (aI l 9) (aI l 12) (aI l 15) (aI l 18) (aI l 21) (aI l 24) (aI l 27) (aI l 30) (aI l 33) (aI l 36) (aI l 39) (aI l 42) (aI l 45) (aI l 48) (aI l 51) (aI l 54) (aI l 57) (aI l 60) (aI l 63) (aI l 66) (aI l 69) (aI l 72) (aI l 75) (aI l 78) (aI l 81) (aI l 84) (aI l 87) (aI l 90) (aI l 93) (aI l 96) (aI l 99) (aI l 102) (aI l 105) (aI l 108) (aI l 111) (aI l 114) (aI l 117) (aI l 120) (aI l 123) (aI l 126) (aI l 129) (aI l 132) (aI l 135) (aI l 138) (aI l 141) (aI l 144)) (colV (aI l 1) (aI l 4) (aI l 7) (aI l 10) (aI l 13) (aI l 16) (aI l 19) (aI l 22) (aI l 25) (aI l 28) (aI l 31) (aI l 34) (aI l 37) (aI l 40) (aI l 43) (aI l 46) (aI l 49) (aI l 52) (aI l 55) (aI l 58) (aI l 61) (aI l 64) (aI l 67) (aI l 70) (aI l 73) (aI l 76) (aI l 79) (aI l 82) (aI l 85) (aI l 88) (aI l 91) (aI l 94) (aI l 97) (aI l 100) (aI l 103) (aI l 106) (aI l 109) (aI l 112) (aI l 115) (aI l 118) (aI l 121) (aI l 124) (aI l 127) (aI l 130) (aI l 133) (aI l 136) (aI l 139) (aI l 142) (aI l 145)) (colL (aI l 2) (aI l 5) (aI l 8) (aI l 11) (aI l 14) (aI l 17) (aI l 20) (aI l 23) (aI l 26) (aI l 29) (aI l 32) (aI l 35) (aI l 38) (aI l 41) (aI l 44) (aI l 47) (aI l 50) (aI l 53) (aI l 56) (aI l 59) (aI l 62) (aI l 65) (aI l 68) (aI l 71) (aI l 74) (aI l 77) (aI l 80) (aI l 83) (aI l 86) (aI l 89) (aI l 92) (aI l 95) (aI l 98) (aI l 101) (aI l 104) (aI l 107) (aI l 110) (aI l 113) (aI l 116) (aI l 119) (aI l 122) (aI l 125) (aI l 128) (aI l 131) (aI l 134) (aI l 137) (aI l 140) (aI l 143) (aI l 146)) (aI l 147) := by kernel_rfl

theorem h_gLeaf : ∀ l r, (F2_Leaf l).val = some r → ∃ r', ((call Try.prog Γ_SE y_gLeaf noLoops 100 Try.f11 (mkV ish_gLeaf l) (mkH ish_gLeaf l)).bind (leafO 0 osh_gLeaf)).val = some r' ∧ AtsEq r' r := by
  intro l r h
  have := val_ok h
  subst this
  obtain ⟨r', h1, h2⟩ := t_leaf 12 15 200025 31 (fun x => x) rfl (colK (aI l 0) (aI l 3) (aI l 6) (aI l 9) (aI l 12) (aI l 15) (aI l 18) (aI l 21) (aI l 24) (aI l 27) (aI l 30) (aI l 33) (aI l 36) (aI l 39) (aI l 42) (aI l 45) (aI l 48) (aI l 51) (aI l 54) (aI l 57) (aI l 60) (aI l 63) (aI l 66) (aI l 69) (aI l 72) (aI l 75) (aI l 78) (aI l 81) (aI l 84) (aI l 87) (aI l 90) (aI l 93) (aI l 96) (aI l 99) (aI l 102) (aI l 105) (aI l 108) (aI l 111) (aI l 114) (aI l 117) (aI l 120) (aI l 123) (aI l 126) (aI l 129) (aI l 132) (aI l 135) (aI l 138) (aI l 141) (aI l 144)) (colV (aI l 1) (aI l 4) (aI l 7) (aI l 10) (aI l 13) (aI l 16) (aI l 19) (aI l 22) (aI l 25) (aI l 28) (aI l 31) (aI l 34) (aI l 37) (aI l 40) (aI l 43) (aI l 46) (aI l 49) (aI l 52) (aI l 55) (aI l 58) (aI l 61) (aI l 64) (aI l 67) (aI l 70) (aI l 73) (aI l 76) (aI l 79) (aI l 82) (aI l 85) (aI l 88) (aI l 91) (aI l 94) (aI l 97) (aI l 100) (aI l 103) (aI l 106) (aI l 109) (aI l 112) (aI l 115) (aI l 118) (aI l 121) (aI l 124) (aI l 127) (aI l 130) (aI l 133) (aI l 136) (aI l 139) (aI l 142) (aI l 145)) (colL (aI l 2) (aI l 5) (aI l 8) (aI l 11) (aI l 14) (aI l 17) (aI l 20) (aI l 23) (aI l 26) (aI l 29) (aI l 32) (aI l 35) (aI l 38) (aI l 41) (aI l 44) (aI l 47) (aI l 50) (aI l 53) (aI l 56) (aI l 59) (aI l 62) (aI l 65) (aI l 68) (aI l 71) (aI l 74) (aI l 77) (aI l 80) (aI l 83) (aI l 86) (aI l 89) (aI l 92) (aI l 95) (aI l 98) (aI l 101) (aI l 104) (aI l 107) (aI l 110) (aI l 113) (aI l 116) (aI l 119) (aI l 122) (aI l 125) (aI l 128) (aI l 131) (aI l 134) (aI l 137) (aI l 140) (aI l 143) (aI l 146)) (aI l 147)
  exact ⟨r', by rw [e_gLeaf, x_gLeaf]; exact h1, by rw [h2]; exact AtsEq.refl _⟩
theorem h_rLeaf : ∀ l r, (F2_Leaf l).val = some r → ∃ r', ((call Try.prog Γ_gLeaf y_rLeaf noLoops 100 Try.f12 (mkV ish_rLeaf l) (mkH ish_rLeaf l)).bind (leafO 0 osh_rLeaf)).val = some r' ∧ AtsEq r' r := by
  intro l r h
  have := val_ok h
  subst this
  obtain ⟨r', h1, h2⟩ := t_leaf 13 16 200027 33 (fun _ => 1) rfl (colK (aI l 0) (aI l 3) (aI l 6) (aI l 9) (aI l 12) (aI l 15) (aI l 18) (aI l 21) (aI l 24) (aI l 27) (aI l 30) (aI l 33) (aI l 36) (aI l 39) (aI l 42) (aI l 45) (aI l 48) (aI l 51) (aI l 54) (aI l 57) (aI l 60) (aI l 63) (aI l 66) (aI l 69) (aI l 72) (aI l 75) (aI l 78) (aI l 81) (aI l 84) (aI l 87) (aI l 90) (aI l 93) (aI l 96) (aI l 99) (aI l 102) (aI l 105) (aI l 108) (aI l 111) (aI l 114) (aI l 117) (aI l 120) (aI l 123) (aI l 126) (aI l 129) (aI l 132) (aI l 135) (aI l 138) (aI l 141) (aI l 144)) (colV (aI l 1) (aI l 4) (aI l 7) (aI l 10) (aI l 13) (aI l 16) (aI l 19) (aI l 22) (aI l 25) (aI l 28) (aI l 31) (aI l 34) (aI l 37) (aI l 40) (aI l 43) (aI l 46) (aI l 49) (aI l 52) (aI l 55) (aI l 58) (aI l 61) (aI l 64) (aI l 67) (aI l 70) (aI l 73) (aI l 76) (aI l 79) (aI l 82) (aI l 85) (aI l 88) (aI l 91) (aI l 94) (aI l 97) (aI l 100) (aI l 103) (aI l 106) (aI l 109) (aI l 112) (aI l 115) (aI l 118) (aI l 121) (aI l 124) (aI l 127) (aI l 130) (aI l 133) (aI l 136) (aI l 139) (aI l 142) (aI l 145)) (colL (aI l 2) (aI l 5) (aI l 8) (aI l 11) (aI l 14) (aI l 17) (aI l 20) (aI l 23) (aI l 26) (aI l 29) (aI l 32) (aI l 35) (aI l 38) (aI l 41) (aI l 44) (aI l 47) (aI l 50) (aI l 53) (aI l 56) (aI l 59) (aI l 62) (aI l 65) (aI l 68) (aI l 71) (aI l 74) (aI l 77) (aI l 80) (aI l 83) (aI l 86) (aI l 89) (aI l 92) (aI l 95) (aI l 98) (aI l 101) (aI l 104) (aI l 107) (aI l 110) (aI l 113) (aI l 116) (aI l 119) (aI l 122) (aI l 125) (aI l 128) (aI l 131) (aI l 134) (aI l 137) (aI l 140) (aI l 143) (aI l 146)) (aI l 147)
  exact ⟨r', by rw [e_rLeaf, x_rLeaf]; exact h1, by rw [h2]; exact AtsEq.refl _⟩
theorem s2_gLeaf : SpecF Try.prog 11 (.pure (locP ish_gLeaf osh_gLeaf F2_Leaf)) :=
  spec_locP (sy := y_gLeaf) (fuel := 100) (Lp := noLoops) o_SE mixed ⟨Try.func11, by kernel_rfl, by kernel_rfl⟩ ish_gLeaf osh_gLeaf rfl (noLoops_ok _) h_gLeaf
theorem s2_rLeaf : SpecF Try.prog 12 (.pure (locP ish_rLeaf osh_rLeaf F2_Leaf)) :=
  spec_locP (sy := y_rLeaf) (fuel := 100) (Lp := noLoops) o_gLeaf mixed ⟨Try.func12, by kernel_rfl, by kernel_rfl⟩ ish_rLeaf osh_rLeaf rfl (noLoops_ok _) h_rLeaf
def Γ_SX : Specs := upd (upd Γ_rLeaf 11 (.pure (locP ish_gLeaf osh_gLeaf F2_Leaf))) 12 (.pure (locP ish_rLeaf osh_rLeaf F2_Leaf))
theorem o_SX : SpecOK Try.prog Γ_SX := SpecOK.upd (SpecOK.upd o_rLeaf s2_gLeaf) s2_rLeaf
end Go.Proofs.Ytobikddlkoibjaa.G
end

/-
  What functions of the seat compute, printed by a program from the explorer.
-/
section
namespace Go.Proofs.Ytobikddlkoibjaa.G
open Go Go.AM Go.Proofs
/-! ### gRL -/

def ish_gRL : FSh := ⟨[.v true [.k (.n .u64), .k (.n .u64), .k (.n .u64), .k (.n .u64), .k (.n .u64), .k (.n .u64), .k (.n .u64), .k (.n .u64)]], []⟩
def osh_gRL : FSh := ⟨[.tup [(true, [.k (.n .i64), .k (.n .i64), .k (.n .i64), .k (.n .i64), .k (.n .i64), .k (.n .i64), .k (.n .i64), .k (.n .i64), .k (.n .i64), .k (.n .i64), .k (.n .i64), .k (.n .i64), .k (.n .i64), .k (.n .i64), .k (.n .i64), .k (.n .i64), .k (.n .i64), .k (.n .i64), .k (.n .i64), .k (.n .i64), .k (.n .i64)]), (false, [.k .b])]], []⟩
def T_gRL (x0 : Int) (x1 : Int) (x2 : Int) (x3 : Int) (x4 : Int) (x5 : Int) (x6 : Int) (x7 : Int) : Tr (List At) :=
 .br 0 (decide ((0 : Int) ≤ x0 ∧ (0 : Int) ≤ x1 ∧ (0 : Int) ≤ x2 ∧ (0 : Int) ≤ x3 ∧ (0 : Int) ≤ x4 ∧ (0 : Int) ≤ x5 ∧ (0 : Int) ≤ x6))
 (.br 8 (!x7 == sealI x0 x1 x2 x3 x4 x5 x6)
 (.ok [(.i ((0 : Int))), (.i ((0 : Int))), (.i ((0 : Int))), (.i ((0 : Int))), (.i ((0 : Int))), (.i ((0 : Int))), (.i ((0 : Int))), (.i ((0 : Int))), (.i ((0 : Int))), (.i ((0 : Int))), (.i ((0 : Int))), (.i ((0 : Int))), (.i ((0 : Int))), (.i ((0 : Int))), (.i ((0 : Int))), (.i ((0 : Int))), (.i ((0 : Int))), (.i ((0 : Int))), (.i ((0 : Int))), (.i ((0 : Int))), (.i ((0 : Int))), (.b (false))])
 (.br 0 (decide ((0 : Int) ≤ x0 ∧ x0 < (18446744073709551616 : Int)))
 (.br 23 (!eOk x0)
 (.ok [(.i ((0 : Int))), (.i ((0 : Int))), (.i ((0 : Int))), (.i ((0 : Int))), (.i ((0 : Int))), (.i ((0 : Int))), (.i ((0 : Int))), (.i ((0 : Int))), (.i ((0 : Int))), (.i ((0 : Int))), (.i ((0 : Int))), (.i ((0 : Int))), (.i ((0 : Int))), (.i ((0 : Int))), (.i ((0 : Int))), (.i ((0 : Int))), (.i ((0 : Int))), (.i ((0 : Int))), (.i ((0 : Int))), (.i ((0 : Int))), (.i ((0 : Int))), (.b (false))])
 (.br 0 (decide ((0 : Int) ≤ x1 ∧ x1 < (18446744073709551616 : Int)))
 (.br 23 (!eOk x1)
 (.ok [(.i ((0 : Int))), (.i ((0 : Int))), (.i ((0 : Int))), (.i ((0 : Int))), (.i ((0 : Int))), (.i ((0 : Int))), (.i ((0 : Int))), (.i ((0 : Int))), (.i ((0 : Int))), (.i ((0 : Int))), (.i ((0 : Int))), (.i ((0 : Int))), (.i ((0 : Int))), (.i ((0 : Int))), (.i ((0 : Int))), (.i ((0 : Int))), (.i ((0 : Int))), (.i ((0 : Int))), (.i ((0 : Int))), (.i ((0 : Int))), (.i ((0 : Int))), (.b (false))])
 (.br 0 (decide ((0 : Int) ≤ x2 ∧ x2 < (18446744073709551616 : Int)))
 (.br 23 (!eOk x2)
 (.ok [(.i ((0 : Int))), (.i ((0 : Int))), (.i ((0 : Int))), (.i ((0 : Int))), (.i ((0 : Int))), (.i ((0 : Int))), (.i ((0 : Int))), (.i ((0 : Int))), (.i ((0 : Int))), (.i ((0 : Int))), (.i ((0 : Int))), (.i ((0 : Int))), (.i ((0 : Int))), (.i ((0 : Int))), (.i ((0 : Int))), (.i ((0 : Int))), (.i ((0 : Int))), (.i ((0 : Int))), (.i ((0 : Int))), (.i ((0 : Int))), (.i ((0 : Int))), (.b (false))])
 (.br 0 (decide ((0 : Int) ≤ x3 ∧ x3 < (18446744073709551616 : Int)))
 (.br 23 (!eOk x3)
 (.ok [(.i ((0 : Int))), (.i ((0 : Int))), (.i ((0 : Int))), (.i ((0 : Int))), (.i ((0 : Int))), (.i ((0 : Int))), (.i ((0 : Int))), (.i ((0 : Int))), (.i ((0 : Int))), (.i ((0 : Int))), (.i ((0 : Int))), (.i ((0 : Int))), (.i ((0 : Int))), (.i ((0 : Int))), (.i ((0 : Int))), (.i ((0 : Int))), (.i ((0 : Int))), (.i ((0 : Int))), (.i ((0 : Int))), (.i ((0 : Int))), (.i ((0 : Int))), (.b (false))])
 (.br 0 (decide ((0 : Int) ≤ x4 ∧ x4 < (18446744073709551616 : Int)))
 (.br 23 (!eOk x4)
 (.ok [(.i ((0 : Int))), (.i ((0 : Int))), (.i ((0 : Int))), (.i ((0 : Int))), (.i ((0 : Int))), (.i ((0 : Int))), (.i ((0 : Int))), (.i ((0 : Int))), (.i ((0 : Int))), (.i ((0 : Int))), (.i ((0 : Int))), (.i ((0 : Int))), (.i ((0 : Int))), (.i ((0 : Int))), (.i ((0 : Int))), (.i ((0 : Int))), (.i ((0 : Int))), (.i ((0 : Int))), (.i ((0 : Int))), (.i ((0 : Int))), (.i ((0 : Int))), (.b (false))])
 (.br 0 (decide ((0 : Int) ≤ x5 ∧ x5 < (18446744073709551616 : Int)))
 (.br 23 (!eOk x5)
 (.ok [(.i ((0 : Int))), (.i ((0 : Int))), (.i ((0 : Int))), (.i ((0 : Int))), (.i ((0 : Int))), (.i ((0 : Int))), (.i ((0 : Int))), (.i ((0 : Int))), (.i ((0 : Int))), (.i ((0 : Int))), (.i ((0 : Int))), (.i ((0 : Int))), (.i ((0 : Int))), (.i ((0 : Int))), (.i ((0 : Int))), (.i ((0 : Int))), (.i ((0 : Int))), (.i ((0 : Int))), (.i ((0 : Int))), (.i ((0 : Int))), (.i ((0 : Int))), (.b (false))])
 (.br 0 (decide ((0 : Int) ≤ x6 ∧ x6 < (18446744073709551616 : Int)))
 (.br 23 (!eOk x6)
 (.ok [(.i ((0 : Int))), (.i ((0 : Int))), (.i ((0 : Int))), (.i ((0 : Int))), (.i ((0 : Int))), (.i ((0 : Int))), (.i ((0 : Int))), (.i ((0 : Int))), (.i ((0 : Int))), (.i ((0 : Int))), (.i ((0 : Int))), (.i ((0 : Int))), (.i ((0 : Int))), (.i ((0 : Int))), (.i ((0 : Int))), (.i ((0 : Int))), (.i ((0 : Int))), (.i ((0 : Int))), (.i ((0 : Int))), (.i ((0 : Int))), (.i ((0 : Int))), (.b (false))])
 (.ok [(.i (bif eOk x0 then eK x0 else (0 : Int))), (.i (bif eOk x0 then eV x0 else (0 : Int))), (.i (bif eOk x0 then eL x0 else (0 : Int))), (.i (bif eOk x1 then eK x1 else (0 : Int))), (.i (bif eOk x1 then eV x1 else (0 : Int))), (.i (bif eOk x1 then eL x1 else (0 : Int))), (.i (bif eOk x2 then eK x2 else (0 : Int))), (.i (bif eOk x2 then eV x2 else (0 : Int))), (.i (bif eOk x2 then eL x2 else (0 : Int))), (.i (bif eOk x3 then eK x3 else (0 : Int))), (.i (bif eOk x3 then eV x3 else (0 : Int))), (.i (bif eOk x3 then eL x3 else (0 : Int))), (.i (bif eOk x4 then eK x4 else (0 : Int))), (.i (bif eOk x4 then eV x4 else (0 : Int))), (.i (bif eOk x4 then eL x4 else (0 : Int))), (.i (bif eOk x5 then eK x5 else (0 : Int))), (.i (bif eOk x5 then eV x5 else (0 : Int))), (.i (bif eOk x5 then eL x5 else (0 : Int))), (.i (bif eOk x6 then eK x6 else (0 : Int))), (.i (bif eOk x6 then eV x6 else (0 : Int))), (.i (bif eOk x6 then eL x6 else (0 : Int))), (.b (true))]))
 (.no)))
 (.no)))
 (.no)))
 (.no)))
 (.no)))
 (.no)))
 (.no)))
 (.no)
def y_gRL : Nat → Option Nat := (syOf3 [8, 23] [] [])
def TL_gRL (l : List At) : Tr (List At) := T_gRL (aI l 0) (aI l 1) (aI l 2) (aI l 3) (aI l 4) (aI l 5) (aI l 6) (aI l 7)
theorem e_gRL (l : List At) : (call Try.prog Γ_SX y_gRL noLoops 100 Try.f13 (mkV ish_gRL l) (mkH ish_gRL l)).bind (leafO 0 osh_gRL) = TL_gRL l := by kernel_rfl
def F_gRL : List At → Tr (List At) := TL_gRL
theorem s_gRL : SpecF Try.prog 13 (.pure (locP ish_gRL osh_gRL F_gRL)) :=
  spec_locP (sy := y_gRL) (fuel := 100) (Lp := noLoops) o_SX mixed ⟨Try.func13, by kernel_rfl, by kernel_rfl⟩ ish_gRL osh_gRL rfl (noLoops_ok _) (hT_ways e_gRL)
def Γ_gRL : Specs := upd Γ_SX 13 (.pure (locP ish_gRL osh_gRL F_gRL))
theorem o_gRL : SpecOK Try.prog Γ_gRL := SpecOK.upd o_SX s_gRL

/-! ### rRL -/

def ish_rRL : FSh := ⟨[.v true [.k (.n .u64), .k (.n .u64), .k (.n .u64), .k (.n .u64), .k (.n .u64), .k (.n .u64), .k (.n .u64), .k (.n .u64)]], []⟩
def osh_rRL : FSh := ⟨[.tup [(true, [.k (.n .i64), .k (.n .i64), .k (.n .i64), .k (.n .i64), .k (.n .i64), .k (.n .i64), .k (.n .i64), .k (.n .i64), .k (.n .i64), .k (.n .i64), .k (.n .i64), .k (.n .i64), .k (.n .i64), .k (.n .i64), .k (.n .i64), .k (.n .i64), .k (.n .i64), .k (.n .i64), .k (.n .i64), .k (.n .i64), .k (.n .i64)]), (false, [.k .b])]], []⟩
def T_rRL (x0 : Int) (x1 : Int) (x2 : Int) (x3 : Int) (x4 : Int) (x5 : Int) (x6 : Int) (x7 : Int) : Tr (List At) :=
 .br 0 (decide ((0 : Int) ≤ x0 ∧ x0 < (18446744073709551616 : Int)))
 (.br 22 (!eOk x0)
 (.ok [(.i ((0 : Int))), (.i ((0 : Int))), (.i ((0 : Int))), (.i ((0 : Int))), (.i ((0 : Int))), (.i ((0 : Int))), (.i ((0 : Int))), (.i ((0 : Int))), (.i ((0 : Int))), (.i ((0 : Int))), (.i ((0 : Int))), (.i ((0 : Int))), (.i ((0 : Int))), (.i ((0 : Int))), (.i ((0 : Int))), (.i ((0 : Int))), (.i ((0 : Int))), (.i ((0 : Int))), (.i ((0 : Int))), (.i ((0 : Int))), (.i ((0 : Int))), (.b (false))])
 (.br 0 (decide ((0 : Int) ≤ x0 ∧ (0 : Int) ≤ x1 ∧ (0 : Int) ≤ x2 ∧ (0 : Int) ≤ x3 ∧ (0 : Int) ≤ x4 ∧ (0 : Int) ≤ x5 ∧ (0 : Int) ≤ x6))
 (.br 26 (!x7 == sealI x0 x1 x2 x3 x4 x5 x6)
 (.ok [(.i ((0 : Int))), (.i ((0 : Int))), (.i ((0 : Int))), (.i ((0 : Int))), (.i ((0 : Int))), (.i ((0 : Int))), (.i ((0 : Int))), (.i ((0 : Int))), (.i ((0 : Int))), (.i ((0 : Int))), (.i ((0 : Int))), (.i ((0 : Int))), (.i ((0 : Int))), (.i ((0 : Int))), (.i ((0 : Int))), (.i ((0 : Int))), (.i ((0 : Int))), (.i ((0 : Int))), (.i ((0 : Int))), (.i ((0 : Int))), (.i ((0 : Int))), (.b (false))])
 (.br 0 (decide ((0 : Int) ≤ x1 ∧ x1 < (18446744073709551616 : Int)))
 (.br 22 (!eOk x1)
 (.ok [(.i ((0 : Int))), (.i ((0 : Int))), (.i ((0 : Int))), (.i ((0 : Int))), (.i ((0 : Int))), (.i ((0 : Int))), (.i ((0 : Int))), (.i ((0 : Int))), (.i ((0 : Int))), (.i ((0 : Int))), (.i ((0 : Int))), (.i ((0 : Int))), (.i ((0 : Int))), (.i ((0 : Int))), (.i ((0 : Int))), (.i ((0 : Int))), (.i ((0 : Int))), (.i ((0 : Int))), (.i ((0 : Int))), (.i ((0 : Int))), (.i ((0 : Int))), (.b (false))])
 (.br 0 (decide ((0 : Int) ≤ x0 ∧ (0 : Int) ≤ x1 ∧ (0 : Int) ≤ x2 ∧ (0 : Int) ≤ x3 ∧ (0 : Int) ≤ x4 ∧ (0 : Int) ≤ x5 ∧ (0 : Int) ≤ x6))
 (.br 26 (!x7 == sealI x0 x1 x2 x3 x4 x5 x6)
 (.ok [(.i ((0 : Int))), (.i ((0 : Int))), (.i ((0 : Int))), (.i ((0 : Int))), (.i ((0 : Int))), (.i ((0 : Int))), (.i ((0 : Int))), (.i ((0 : Int))), (.i ((0 : Int))), (.i ((0 : Int))), (.i ((0 : Int))), (.i ((0 : Int))), (.i ((0 : Int))), (.i ((0 : Int))), (.i ((0 : Int))), (.i ((0 : Int))), (.i ((0 : Int))), (.i ((0 : Int))), (.i ((0 : Int))), (.i ((0 : Int))), (.i ((0 : Int))), (.b (false))])
 (.br 0 (decide ((0 : Int) ≤ x2 ∧ x2 < (18446744073709551616 : Int)))
 (.br 22 (!eOk x2)
 (.ok [(.i ((0 : Int))), (.i ((0 : Int))), (.i ((0 : Int))), (.i ((0 : Int))), (.i ((0 : Int))), (.i ((0 : Int))), (.i ((0 : Int))), (.i ((0 : Int))), (.i ((0 : Int))), (.i ((0 : Int))), (.i ((0 : Int))), (.i ((0 : Int))), (.i ((0 : Int))), (.i ((0 : Int))), (.i ((0 : Int))), (.i ((0 : Int))), (.i ((0 : Int))), (.i ((0 : Int))), (.i ((0 : Int))), (.i ((0 : Int))), (.i ((0 : Int))), (.b (false))])
 (.br 0 (decide ((0 : Int) ≤ x0 ∧ (0 : Int) ≤ x1 ∧ (0 : Int) ≤ x2 ∧ (0 : Int) ≤ x3 ∧ (0 : Int) ≤ x4 ∧ (0 : Int) ≤ x5 ∧ (0 : Int) ≤ x6))
 (.br 26 (!x7 == sealI x0 x1 x2 x3 x4 x5 x6)
 (.ok [(.i ((0 : Int))), (.i ((0 : Int))), (.i ((0 : Int))), (.i ((0 : Int))), (.i ((0 : Int))), (.i ((0 : Int))), (.i ((0 : Int))), (.i ((0 : Int))), (.i ((0 : Int))), (.i ((0 : Int))), (.i ((0 : Int))), (.i ((0 : Int))), (.i ((0 : Int))), (.i ((0 : Int))), (.i ((0 : Int))), (.i ((0 : Int))), (.i ((0 : Int))), (.i ((0 : Int))), (.i ((0 : Int))), (.i ((0 : Int))), (.i ((0 : Int))), (.b (false))])
 (.br 0 (decide ((0 : Int) ≤ x3 ∧ x3 < (18446744073709551616 : Int)))
 (.br 22 (!eOk x3)
 (.ok [(.i ((0 : Int))), (.i ((0 : Int))), (.i ((0 : Int))), (.i ((0 : Int))), (.i ((0 : Int))), (.i ((0 : Int))), (.i ((0 : Int))), (.i ((0 : Int))), (.i ((0 : Int))), (.i ((0 : Int))), (.i ((0 : Int))), (.i ((0 : Int))), (.i ((0 : Int))), (.i ((0 : Int))), (.i ((0 : Int))), (.i ((0 : Int))), (.i ((0 : Int))), (.i ((0 : Int))), (.i ((0 : Int))), (.i ((0 : Int))), (.i ((0 : Int))), (.b (false))])
 (.br 0 (decide ((0 : Int) ≤ x0 ∧ (0 : Int) ≤ x1 ∧ (0 : Int) ≤ x2 ∧ (0 : Int) ≤ x3 ∧ (0 : Int) ≤ x4 ∧ (0 : Int) ≤ x5 ∧ (0 : Int) ≤ x6))
 (.br 26 (!x7 == sealI x0 x1 x2 x3 x4 x5 x6)
 (.ok [(.i ((0 : Int))), (.i ((0 : Int))), (.i ((0 : Int))), (.i ((0 : Int))), (.i ((0 : Int))), (.i ((0 : Int))), (.i ((0 : Int))), (.i ((0 : Int))), (.i ((0 : Int))), (.i ((0 : Int))), (.i ((0 : Int))), (.i ((0 : Int))), (.i ((0 : Int))), (.i ((0 : Int))), (.i ((0 : Int))), (.i ((0 : Int))), (.i ((0 : Int))), (.i ((0 : Int))), (.i ((0 : Int))), (.i ((0 : Int))), (.i ((0 : Int))), (.b (false))])
 (.br 0 (decide ((0 : Int) ≤ x4 ∧ x4 < (18446744073709551616 : Int)))
 (.br 22 (!eOk x4)
 (.ok [(.i ((0 : Int))), (.i ((0 : Int))), (.i ((0 : Int))), (.i ((0 : Int))), (.i ((0 : Int))), (.i ((0 : Int))), (.i ((0 : Int))), (.i ((0 : Int))), (.i ((0 : Int))), (.i ((0 : Int))), (.i ((0 : Int))), (.i ((0 : Int))), (.i ((0 : Int))), (.i ((0 : Int))), (.i ((0 : Int))), (.i ((0 : Int))), (.i ((0 : Int))), (.i ((0 : Int))), (.i ((0 : Int))), (.i ((0 : Int))), (.i ((0 : Int))), (.b (false))])
 (.br 0 (decide ((0 : Int) ≤ x0 ∧ (0 : Int) ≤ x1 ∧ (0 : Int) ≤ x2 ∧ (0 : Int) ≤ x3 ∧ (0 : Int) ≤ x4 ∧ (0 : Int) ≤ x5 ∧ (0 : Int) ≤ x6))
 (.br 26 (!x7 == sealI x0 x1 x2 x3 x4 x5 x6)
 (.ok [(.i ((0 : Int))), (.i ((0 : Int))), (.i ((0 : Int))), (.i ((0 : Int))), (.i ((0 : Int))), (.i ((0 : Int))), (.i ((0 : Int))), (.i ((0 : Int))), (.i ((0 : Int))), (.i ((0 : Int))), (.i ((0 : Int))), (.i ((0 : Int))), (.i ((0 : Int))), (.i ((0 : Int))), (.i ((0 : Int))), (.i ((0 : Int))), (.i ((0 : Int))), (.i ((0 : Int))), (.i ((0 : Int))), (.i ((0 : Int))), (.i ((0 : Int))), (.b (false))])
 (.br 0 (decide ((0 : Int) ≤ x5 ∧ x5 < (18446744073709551616 : Int)))
 (.br 22 (!eOk x5)
 (.ok [(.i ((0 : Int))), (.i ((0 : Int))), (.i ((0 : Int))), (.i ((0 : Int))), (.i ((0 : Int))), (.i ((0 : Int))), (.i ((0 : Int))), (.i ((0 : Int))), (.i ((0 : Int))), (.i ((0 : Int))), (.i ((0 : Int))), (.i ((0 : Int))), (.i ((0 : Int))), (.i ((0 : Int))), (.i ((0 : Int))), (.i ((0 : Int))), (.i ((0 : Int))), (.i ((0 : Int))), (.i ((0 : Int))), (.i ((0 : Int))), (.i ((0 : Int))), (.b (false))])
 (.br 0 (decide ((0 : Int) ≤ x0 ∧ (0 : Int) ≤ x1 ∧ (0 : Int) ≤ x2 ∧ (0 : Int) ≤ x3 ∧ (0 : Int) ≤ x4 ∧ (0 : Int) ≤ x5 ∧ (0 : Int) ≤ x6))
 (.br 26 (!x7 == sealI x0 x1 x2 x3 x4 x5 x6)
 (.ok [(.i ((0 : Int))), (.i ((0 : Int))), (.i ((0 : Int))), (.i ((0 : Int))), (.i ((0 : Int))), (.i ((0 : Int))), (.i ((0 : Int))), (.i ((0 : Int))), (.i ((0 : Int))), (.i ((0 : Int))), (.i ((0 : Int))), (.i ((0 : Int))), (.i ((0 : Int))), (.i ((0 : Int))), (.i ((0 : Int))), (.i ((0 : Int))), (.i ((0 : Int))), (.i ((0 : Int))), (.i ((0 : Int))), (.i ((0 : Int))), (.i ((0 : Int))), (.b (false))])
 (.br 0 (decide ((0 : Int) ≤ x6 ∧ x6 < (18446744073709551616 : Int)))
 (.br 22 (!eOk x6)
 (.ok [(.i ((0 : Int))), (.i ((0 : Int))), (.i ((0 : Int))), (.i ((0 : Int))), (.i ((0 : Int))), (.i ((0 : Int))), (.i ((0 : Int))), (.i ((0 : Int))), (.i ((0 : Int))), (.i ((0 : Int))), (.i ((0 : Int))), (.i ((0 : Int))), (.i ((0 : Int))), (.i ((0 : Int))), (.i ((0 : Int))), (.i ((0 : Int))), (.i ((0 : Int))), (.i ((0 : Int))), (.i ((0 : Int))), (.i ((0 : Int))), (.i ((0 : Int))), (.b (false))])
 (.br 0 (decide ((0 : Int) ≤ x0 ∧ (0 : Int) ≤ x1 ∧ (0 : Int) ≤ x2 ∧ (0 : Int) ≤ x3 ∧ (0 : Int) ≤ x4 ∧ (0 : Int) ≤ x5 ∧ (0 : Int) ≤ x6))
 (.br 26 (!x7 == sealI x0 x1 x2 x3 x4 x5 x6)
 (.ok [(.i ((0 : Int))), (.i ((0 : Int))), (.i ((0 : Int))), (.i ((0 : Int))), (.i ((0 : Int))), (.i ((0 : Int))), (.i ((0 : Int))), (.i ((0 : Int))), (.i ((0 : Int))), (.i ((0 : Int))), (.i ((0 : Int))), (.i ((0 : Int))), (.i ((0 : Int))), (.i ((0 : Int))), (.i ((0 : Int))), (.i ((0 : Int))), (.i ((0 : Int))), (.i ((0 : Int))), (.i ((0 : Int))), (.i ((0 : Int))), (.i ((0 : Int))), (.b (false))])
 (.ok [(.i (bif eOk x0 then eK x0 else (0 : Int))), (.i (bif eOk x0 then eV x0 else (0 : Int))), (.i (bif eOk x0 then eL x0 else (0 : Int))), (.i (bif eOk x1 then eK x1 else (0 : Int))), (.i (bif eOk x1 then eV x1 else (0 : Int))), (.i (bif eOk x1 then eL x1 else (0 : Int))), (.i (bif eOk x2 then eK x2 else (0 : Int))), (.i (bif eOk x2 then eV x2 else (0 : Int))), (.i (bif eOk x2 then eL x2 else (0 : Int))), (.i (bif eOk x3 then eK x3 else (0 : Int))), (.i (bif eOk x3 then eV x3 else (0 : Int))), (.i (bif eOk x3 then eL x3 else (0 : Int))), (.i (bif eOk x4 then eK x4 else (0 : Int))), (.i (bif eOk x4 then eV x4 else (0 : Int))), (.i (bif eOk x4 then eL x4 else (0 : Int))), (.i (bif eOk x5 then eK x5 else (0 : Int))), (.i (bif eOk x5 then eV x5 else (0 : Int))), (.i (bif eOk x5 then eL x5 else (0 : Int))), (.i (bif eOk x6 then eK x6 else (0 : Int))), (.i (bif eOk x6 then eV x6 else (0 : Int))), (.i (bif eOk x6 then eL x6 else (0 : Int))), (.b (true))]))
 (.no)))
 (.no)))
 (.no)))
 (.no)))
 (.no)))
 (.no)))
 (.no)))
 (.no)))
 (.no)))
 (.no)))
 (.no)))
 (.no)))
 (.no)))
 (.no)
def y_rRL : Nat → Option Nat := (syOf3 [22, 26] [] [])
def TL_rRL (l : List At) : Tr (List At) := T_rRL (aI l 0) (aI l 1) (aI l 2) (aI l 3) (aI l 4) (aI l 5) (aI l 6) (aI l 7)
theorem e_rRL (l : List At) : (call Try.prog Γ_gRL y_rRL noLoops 100 Try.f14 (mkV ish_rRL l) (mkH ish_rRL l)).bind (leafO 0 osh_rRL) = TL_rRL l := by kernel_rfl
def F_rRL : List At → Tr (List At) := TL_rRL
theorem s_rRL : SpecF Try.prog 14 (.pure (locP ish_rRL osh_rRL F_rRL)) :=
  spec_locP (sy := y_rRL) (fuel := 100) (Lp := noLoops) o_gRL mixed ⟨Try.func14, by kernel_rfl, by kernel_rfl⟩ ish_rRL osh_rRL rfl (noLoops_ok _) (hT_ways e_rRL)
def Γ_rRL : Specs := upd Γ_gRL 14 (.pure (locP ish_rRL osh_rRL F_rRL))
theorem o_rRL : SpecOK Try.prog Γ_rRL := SpecOK.upd o_gRL s_rRL

end Go.Proofs.Ytobikddlkoibjaa.G
end

/-
  What functions of the seat compute, printed by a program from the explorer.
-/
section
namespace Go.Proofs.Ytobikddlkoibjaa.G
open Go Go.AM Go.Proofs
/-! ### gRoot -/

def ish_gRoot : FSh := ⟨[.v true [.k (.n .i64), .k (.n .i64), .k (.n .i64), .k (.n .i64), .k (.n .i64), .k (.n .i64), .k (.n .i64)]], []⟩
def osh_gRoot : FSh := ⟨[.tup [(true, [.k (.n .u64), .k (.n .u64), .k (.n .u64), .k (.n .u64), .k (.n .u64), .k (.n .u64), .k (.n .u64), .k (.n .u64)]), (false, [.k (.n .i64)])]], []⟩
def T_gRoot (x0 : Int) (x1 : Int) (x2 : Int) (x3 : Int) (x4 : Int) (x5 : Int) (x6 : Int) : Tr (List At) :=
 .br 14 (decide (x0 < (0 : Int)))
 (.ok [(.i ((0 : Int))), (.i ((0 : Int))), (.i ((0 : Int))), (.i ((0 : Int))), (.i ((0 : Int))), (.i ((0 : Int))), (.i ((0 : Int))), (.i ((0 : Int))), (.i ((1 : Int)))])
 (.br 17 (decide (x0 ≥ (1024 : Int)))
 (.ok [(.i ((0 : Int))), (.i ((0 : Int))), (.i ((0 : Int))), (.i ((0 : Int))), (.i ((0 : Int))), (.i ((0 : Int))), (.i ((0 : Int))), (.i ((0 : Int))), (.i ((1 : Int)))])
 (.br 14 (decide (x1 < (0 : Int)))
 (.ok [(.i ((0 : Int))), (.i ((0 : Int))), (.i ((0 : Int))), (.i ((0 : Int))), (.i ((0 : Int))), (.i ((0 : Int))), (.i ((0 : Int))), (.i ((0 : Int))), (.i ((1 : Int)))])
 (.br 17 (decide (x1 ≥ (1024 : Int)))
 (.ok [(.i ((0 : Int))), (.i ((0 : Int))), (.i ((0 : Int))), (.i ((0 : Int))), (.i ((0 : Int))), (.i ((0 : Int))), (.i ((0 : Int))), (.i ((0 : Int))), (.i ((1 : Int)))])
 (.br 14 (decide (x2 < (0 : Int)))
 (.ok [(.i ((0 : Int))), (.i ((0 : Int))), (.i ((0 : Int))), (.i ((0 : Int))), (.i ((0 : Int))), (.i ((0 : Int))), (.i ((0 : Int))), (.i ((0 : Int))), (.i ((1 : Int)))])
 (.br 17 (decide (x2 ≥ (1024 : Int)))
 (.ok [(.i ((0 : Int))), (.i ((0 : Int))), (.i ((0 : Int))), (.i ((0 : Int))), (.i ((0 : Int))), (.i ((0 : Int))), (.i ((0 : Int))), (.i ((0 : Int))), (.i ((1 : Int)))])
 (.br 14 (decide (x3 < (0 : Int)))
 (.ok [(.i ((0 : Int))), (.i ((0 : Int))), (.i ((0 : Int))), (.i ((0 : Int))), (.i ((0 : Int))), (.i ((0 : Int))), (.i ((0 : Int))), (.i ((0 : Int))), (.i ((1 : Int)))])
 (.br 17 (decide (x3 ≥ (1024 : Int)))
 (.ok [(.i ((0 : Int))), (.i ((0 : Int))), (.i ((0 : Int))), (.i ((0 : Int))), (.i ((0 : Int))), (.i ((0 : Int))), (.i ((0 : Int))), (.i ((0 : Int))), (.i ((1 : Int)))])
 (.br 14 (decide (x4 < (0 : Int)))
 (.ok [(.i ((0 : Int))), (.i ((0 : Int))), (.i ((0 : Int))), (.i ((0 : Int))), (.i ((0 : Int))), (.i ((0 : Int))), (.i ((0 : Int))), (.i ((0 : Int))), (.i ((1 : Int)))])
 (.br 17 (decide (x4 ≥ (1024 : Int)))
 (.ok [(.i ((0 : Int))), (.i ((0 : Int))), (.i ((0 : Int))), (.i ((0 : Int))), (.i ((0 : Int))), (.i ((0 : Int))), (.i ((0 : Int))), (.i ((0 : Int))), (.i ((1 : Int)))])
 (.br 14 (decide (x5 < (0 : Int)))
 (.ok [(.i ((0 : Int))), (.i ((0 : Int))), (.i ((0 : Int))), (.i ((0 : Int))), (.i ((0 : Int))), (.i ((0 : Int))), (.i ((0 : Int))), (.i ((0 : Int))), (.i ((1 : Int)))])
 (.br 17 (decide (x5 ≥ (1024 : Int)))
 (.ok [(.i ((0 : Int))), (.i ((0 : Int))), (.i ((0 : Int))), (.i ((0 : Int))), (.i ((0 : Int))), (.i ((0 : Int))), (.i ((0 : Int))), (.i ((0 : Int))), (.i ((1 : Int)))])
 (.br 14 (decide (x6 < (0 : Int)))
 (.ok [(.i ((0 : Int))), (.i ((0 : Int))), (.i ((0 : Int))), (.i ((0 : Int))), (.i ((0 : Int))), (.i ((0 : Int))), (.i ((0 : Int))), (.i ((0 : Int))), (.i ((1 : Int)))])
 (.br 17 (decide (x6 ≥ (1024 : Int)))
 (.ok [(.i ((0 : Int))), (.i ((0 : Int))), (.i ((0 : Int))), (.i ((0 : Int))), (.i ((0 : Int))), (.i ((0 : Int))), (.i ((0 : Int))), (.i ((0 : Int))), (.i ((1 : Int)))])
 (.br 0 (decide ((0 : Int) ≤ bits BinOp.or IntKind.u64 (4294967296 : Int) (IntKind.wrap IntKind.u64 x0) ∧ (0 : Int) ≤ bits BinOp.or IntKind.u64 (4294967296 : Int) (IntKind.wrap IntKind.u64 x1) ∧ (0 : Int) ≤ bits BinOp.or IntKind.u64 (4294967296 : Int) (IntKind.wrap IntKind.u64 x2) ∧ (0 : Int) ≤ bits BinOp.or IntKind.u64 (4294967296 : Int) (IntKind.wrap IntKind.u64 x3) ∧ (0 : Int) ≤ bits BinOp.or IntKind.u64 (4294967296 : Int) (IntKind.wrap IntKind.u64 x4) ∧ (0 : Int) ≤ bits BinOp.or IntKind.u64 (4294967296 : Int) (IntKind.wrap IntKind.u64 x5) ∧ (0 : Int) ≤ bits BinOp.or IntKind.u64 (4294967296 : Int) (IntKind.wrap IntKind.u64 x6)))
 (.ok [(.i (bits BinOp.or IntKind.u64 (4294967296 : Int) (IntKind.wrap IntKind.u64 x0))), (.i (bits BinOp.or IntKind.u64 (4294967296 : Int) (IntKind.wrap IntKind.u64 x1))), (.i (bits BinOp.or IntKind.u64 (4294967296 : Int) (IntKind.wrap IntKind.u64 x2))), (.i (bits BinOp.or IntKind.u64 (4294967296 : Int) (IntKind.wrap IntKind.u64 x3))), (.i (bits BinOp.or IntKind.u64 (4294967296 : Int) (IntKind.wrap IntKind.u64 x4))), (.i (bits BinOp.or IntKind.u64 (4294967296 : Int) (IntKind.wrap IntKind.u64 x5))), (.i (bits BinOp.or IntKind.u64 (4294967296 : Int) (IntKind.wrap IntKind.u64 x6))), (.i (sealI (bits BinOp.or IntKind.u64 (4294967296 : Int) (IntKind.wrap IntKind.u64 x0)) (bits BinOp.or IntKind.u64 (4294967296 : Int) (IntKind.wrap IntKind.u64 x1)) (bits BinOp.or IntKind.u64 (4294967296 : Int) (IntKind.wrap IntKind.u64 x2)) (bits BinOp.or IntKind.u64 (4294967296 : Int) (IntKind.wrap IntKind.u64 x3)) (bits BinOp.or IntKind.u64 (4294967296 : Int) (IntKind.wrap IntKind.u64 x4)) (bits BinOp.or IntKind.u64 (4294967296 : Int) (IntKind.wrap IntKind.u64 x5)) (bits BinOp.or IntKind.u64 (4294967296 : Int) (IntKind.wrap IntKind.u64 x6)))), (.i ((0 : Int)))])
 (.no)))))))))))))))
def y_gRoot : Nat → Option Nat := (syOf3 [14, 17] [] [])
def TL_gRoot (l : List At) : Tr (List At) := T_gRoot (aI l 0) (aI l 1) (aI l 2) (aI l 3) (aI l 4) (aI l 5) (aI l 6)
theorem e_gRoot (l : List At) : (call Try.prog Γ_rRL y_gRoot noLoops 100 Try.f15 (mkV ish_gRoot l) (mkH ish_gRoot l)).bind (leafO 0 osh_gRoot) = TL_gRoot l := by kernel_rfl
def F_gRoot : List At → Tr (List At) := TL_gRoot
theorem s_gRoot : SpecF Try.prog 15 (.pure (locP ish_gRoot osh_gRoot F_gRoot)) :=
  spec_locP (sy := y_gRoot) (fuel := 100) (Lp := noLoops) o_rRL mixed ⟨Try.func15, by kernel_rfl, by kernel_rfl⟩ ish_gRoot osh_gRoot rfl (noLoops_ok _) (hT_ways e_gRoot)
def Γ_gRoot : Specs := upd Γ_rRL 15 (.pure (locP ish_gRoot osh_gRoot F_gRoot))
theorem o_gRoot : SpecOK Try.prog Γ_gRoot := SpecOK.upd o_rRL s_gRoot

/-! ### rRoot -/

def ish_rRoot : FSh := ⟨[.v true [.k (.n .i64), .k (.n .i64), .k (.n .i64), .k (.n .i64), .k (.n .i64), .k (.n .i64), .k (.n .i64)]], []⟩
def osh_rRoot : FSh := ⟨[.tup [(true, [.k (.n .u64), .k (.n .u64), .k (.n .u64), .k (.n .u64), .k (.n .u64), .k (.n .u64), .k (.n .u64), .k (.n .u64)]), (false, [.k (.n .i64)])]], []⟩
def T_rRoot (x0 : Int) (x1 : Int) (x2 : Int) (x3 : Int) (x4 : Int) (x5 : Int) (x6 : Int) : Tr (List At) :=
 .br 15 (decide (x0 < (0 : Int)))
 (.ok [(.i ((0 : Int))), (.i ((0 : Int))), (.i ((0 : Int))), (.i ((0 : Int))), (.i ((0 : Int))), (.i ((0 : Int))), (.i ((0 : Int))), (.i ((0 : Int))), (.i ((1 : Int)))])
 (.br 20 (decide (x0 ≥ (1024 : Int)))
 (.ok [(.i ((0 : Int))), (.i ((0 : Int))), (.i ((0 : Int))), (.i ((0 : Int))), (.i ((0 : Int))), (.i ((0 : Int))), (.i ((0 : Int))), (.i ((0 : Int))), (.i ((1 : Int)))])
 (.br 15 (decide (x1 < (0 : Int)))
 (.ok [(.i ((0 : Int))), (.i ((0 : Int))), (.i ((0 : Int))), (.i ((0 : Int))), (.i ((0 : Int))), (.i ((0 : Int))), (.i ((0 : Int))), (.i ((0 : Int))), (.i ((1 : Int)))])
 (.br 20 (decide (x1 ≥ (1024 : Int)))
 (.ok [(.i ((0 : Int))), (.i ((0 : Int))), (.i ((0 : Int))), (.i ((0 : Int))), (.i ((0 : Int))), (.i ((0 : Int))), (.i ((0 : Int))), (.i ((0 : Int))), (.i ((1 : Int)))])
 (.br 15 (decide (x2 < (0 : Int)))
 (.ok [(.i ((0 : Int))), (.i ((0 : Int))), (.i ((0 : Int))), (.i ((0 : Int))), (.i ((0 : Int))), (.i ((0 : Int))), (.i ((0 : Int))), (.i ((0 : Int))), (.i ((1 : Int)))])
 (.br 20 (decide (x2 ≥ (1024 : Int)))
 (.ok [(.i ((0 : Int))), (.i ((0 : Int))), (.i ((0 : Int))), (.i ((0 : Int))), (.i ((0 : Int))), (.i ((0 : Int))), (.i ((0 : Int))), (.i ((0 : Int))), (.i ((1 : Int)))])
 (.br 15 (decide (x3 < (0 : Int)))
 (.ok [(.i ((0 : Int))), (.i ((0 : Int))), (.i ((0 : Int))), (.i ((0 : Int))), (.i ((0 : Int))), (.i ((0 : Int))), (.i ((0 : Int))), (.i ((0 : Int))), (.i ((1 : Int)))])
 (.br 20 (decide (x3 ≥ (1024 : Int)))
 (.ok [(.i ((0 : Int))), (.i ((0 : Int))), (.i ((0 : Int))), (.i ((0 : Int))), (.i ((0 : Int))), (.i ((0 : Int))), (.i ((0 : Int))), (.i ((0 : Int))), (.i ((1 : Int)))])
 (.br 15 (decide (x4 < (0 : Int)))
 (.ok [(.i ((0 : Int))), (.i ((0 : Int))), (.i ((0 : Int))), (.i ((0 : Int))), (.i ((0 : Int))), (.i ((0 : Int))), (.i ((0 : Int))), (.i ((0 : Int))), (.i ((1 : Int)))])
 (.br 20 (decide (x4 ≥ (1024 : Int)))
 (.ok [(.i ((0 : Int))), (.i ((0 : Int))), (.i ((0 : Int))), (.i ((0 : Int))), (.i ((0 : Int))), (.i ((0 : Int))), (.i ((0 : Int))), (.i ((0 : Int))), (.i ((1 : Int)))])
 (.br 15 (decide (x5 < (0 : Int)))
 (.ok [(.i ((0 : Int))), (.i ((0 : Int))), (.i ((0 : Int))), (.i ((0 : Int))), (.i ((0 : Int))), (.i ((0 : Int))), (.i ((0 : Int))), (.i ((0 : Int))), (.i ((1 : Int)))])
 (.br 20 (decide (x5 ≥ (1024 : Int)))
 (.ok [(.i ((0 : Int))), (.i ((0 : Int))), (.i ((0 : Int))), (.i ((0 : Int))), (.i ((0 : Int))), (.i ((0 : Int))), (.i ((0 : Int))), (.i ((0 : Int))), (.i ((1 : Int)))])
 (.br 15 (decide (x6 < (0 : Int)))
 (.ok [(.i ((0 : Int))), (.i ((0 : Int))), (.i ((0 : Int))), (.i ((0 : Int))), (.i ((0 : Int))), (.i ((0 : Int))), (.i ((0 : Int))), (.i ((0 : Int))), (.i ((1 : Int)))])
 (.br 20 (decide (x6 ≥ (1024 : Int)))
 (.ok [(.i ((0 : Int))), (.i ((0 : Int))), (.i ((0 : Int))), (.i ((0 : Int))), (.i ((0 : Int))), (.i ((0 : Int))), (.i ((0 : Int))), (.i ((0 : Int))), (.i ((1 : Int)))])
 (.br 0 (decide ((0 : Int) ≤ bits BinOp.or IntKind.u64 (IntKind.wrap IntKind.u64 x0) (4294967296 : Int) ∧ (0 : Int) ≤ bits BinOp.or IntKind.u64 (IntKind.wrap IntKind.u64 x1) (4294967296 : Int) ∧ (0 : Int) ≤ bits BinOp.or IntKind.u64 (IntKind.wrap IntKind.u64 x2) (4294967296 : Int) ∧ (0 : Int) ≤ bits BinOp.or IntKind.u64 (IntKind.wrap IntKind.u64 x3) (4294967296 : Int) ∧ (0 : Int) ≤ bits BinOp.or IntKind.u64 (IntKind.wrap IntKind.u64 x4) (4294967296 : Int) ∧ (0 : Int) ≤ bits BinOp.or IntKind.u64 (IntKind.wrap IntKind.u64 x5) (4294967296 : Int) ∧ (0 : Int) ≤ bits BinOp.or IntKind.u64 (IntKind.wrap IntKind.u64 x6) (4294967296 : Int)))
 (.ok [(.i (bits BinOp.or IntKind.u64 (IntKind.wrap IntKind.u64 x0) (4294967296 : Int))), (.i (bits BinOp.or IntKind.u64 (IntKind.wrap IntKind.u64 x1) (4294967296 : Int))), (.i (bits BinOp.or IntKind.u64 (IntKind.wrap IntKind.u64 x2) (4294967296 : Int))), (.i (bits BinOp.or IntKind.u64 (IntKind.wrap IntKind.u64 x3) (4294967296 : Int))), (.i (bits BinOp.or IntKind.u64 (IntKind.wrap IntKind.u64 x4) (4294967296 : Int))), (.i (bits BinOp.or IntKind.u64 (IntKind.wrap IntKind.u64 x5) (4294967296 : Int))), (.i (bits BinOp.or IntKind.u64 (IntKind.wrap IntKind.u64 x6) (4294967296 : Int))), (.i (sealI (bits BinOp.or IntKind.u64 (IntKind.wrap IntKind.u64 x0) (4294967296 : Int)) (bits BinOp.or IntKind.u64 (IntKind.wrap IntKind.u64 x1) (4294967296 : Int)) (bits BinOp.or IntKind.u64 (IntKind.wrap IntKind.u64 x2) (4294967296 : Int)) (bits BinOp.or IntKind.u64 (IntKind.wrap IntKind.u64 x3) (4294967296 : Int)) (bits BinOp.or IntKind.u64 (IntKind.wrap IntKind.u64 x4) (4294967296 : Int)) (bits BinOp.or IntKind.u64 (IntKind.wrap IntKind.u64 x5) (4294967296 : Int)) (bits BinOp.or IntKind.u64 (IntKind.wrap IntKind.u64 x6) (4294967296 : Int)))), (.i ((0 : Int)))])
 (.no)))))))))))))))
def y_rRoot : Nat → Option Nat := (syOf3 [15, 20] [] [])
def TL_rRoot (l : List At) : Tr (List At) := T_rRoot (aI l 0) (aI l 1) (aI l 2) (aI l 3) (aI l 4) (aI l 5) (aI l 6)
theorem e_rRoot (l : List At) : (call Try.prog Γ_gRoot y_rRoot noLoops 100 Try.f16 (mkV ish_rRoot l) (mkH ish_rRoot l)).bind (leafO 0 osh_rRoot) = TL_rRoot l := by kernel_rfl
def F_rRoot : List At → Tr (List At) := TL_rRoot
theorem s_rRoot : SpecF Try.prog 16 (.pure (locP ish_rRoot osh_rRoot F_rRoot)) :=
  spec_locP (sy := y_rRoot) (fuel := 100) (Lp := noLoops) o_gRoot mixed ⟨Try.func16, by kernel_rfl, by kernel_rfl⟩ ish_rRoot osh_rRoot rfl (noLoops_ok _) (hT_ways e_rRoot)
def Γ_rRoot : Specs := upd Γ_gRoot 16 (.pure (locP ish_rRoot osh_rRoot F_rRoot))
theorem o_rRoot : SpecOK Try.prog Γ_rRoot := SpecOK.upd o_gRoot s_rRoot

end Go.Proofs.Ytobikddlkoibjaa.G
end

/-
  What reads a leaf, and a root's line: the code's and the reference's, in the same words.
-/
section
namespace Go.Proofs.Ytobikddlkoibjaa.G
open Go Go.AM Go.Proofs

def rlOk (x0 x1 x2 x3 x4 x5 x6 x7 : Int) : Bool := (x7 == sealI x0 x1 x2 x3 x4 x5 x6) && (eOk x0 && eOk x1 && eOk x2 && eOk x3 && eOk x4 && eOk x5 && eOk x6)
def F2_RL (l : List At) : Tr (List At) := .br 0 (decide ((0 ≤ (aI l 0) ∧ (aI l 0) < 18446744073709551616) ∧ (0 ≤ (aI l 1) ∧ (aI l 1) < 18446744073709551616) ∧ (0 ≤ (aI l 2) ∧ (aI l 2) < 18446744073709551616) ∧ (0 ≤ (aI l 3) ∧ (aI l 3) < 18446744073709551616) ∧ (0 ≤ (aI l 4) ∧ (aI l 4) < 18446744073709551616) ∧ (0 ≤ (aI l 5) ∧ (aI l 5) < 18446744073709551616) ∧ (0 ≤ (aI l 6) ∧ (aI l 6) < 18446744073709551616))) (.ok [.i (bif rlOk (aI l 0) (aI l 1) (aI l 2) (aI l 3) (aI l 4) (aI l 5) (aI l 6) (aI l 7) then eK (aI l 0) else 0), .i (bif rlOk (aI l 0) (aI l 1) (aI l 2) (aI l 3) (aI l 4) (aI l 5) (aI l 6) (aI l 7) then eV (aI l 0) else 0), .i (bif rlOk (aI l 0) (aI l 1) (aI l 2) (aI l 3) (aI l 4) (aI l 5) (aI l 6) (aI l 7) then eL (aI l 0) else 0), .i (bif rlOk (aI l 0) (aI l 1) (aI l 2) (aI l 3) (aI l 4) (aI l 5) (aI l 6) (aI l 7) then eK (aI l 1) else 0), .i (bif rlOk (aI l 0) (aI l 1) (aI l 2) (aI l 3) (aI l 4) (aI l 5) (aI l 6) (aI l 7) then eV (aI l 1) else 0), .i (bif rlOk (aI l 0) (aI l 1) (aI l 2) (aI l 3) (aI l 4) (aI l 5) (aI l 6) (aI l 7) then eL (aI l 1) else 0), .i (bif rlOk (aI l 0) (aI l 1) (aI l 2) (aI l 3) (aI l 4) (aI l 5) (aI l 6) (aI l 7) then eK (aI l 2) else 0), .i (bif rlOk (aI l 0) (aI l 1) (aI l 2) (aI l 3) (aI l 4) (aI l 5) (aI l 6) (aI l 7) then eV (aI l 2) else 0), .i (bif rlOk (aI l 0) (aI l 1) (aI l 2) (aI l 3) (aI l 4) (aI l 5) (aI l 6) (aI l 7) then eL (aI l 2) else 0), .i (bif rlOk (aI l 0) (aI l 1) (aI l 2) (aI l 3) (aI l 4) (aI l 5) (aI l 6) (aI l 7) then eK (aI l 3) else 0), .i (bif rlOk (aI l 0) (aI l 1) (aI l 2) (aI l 3) (aI l 4) (aI l 5) (aI l 6) (aI l 7) then eV (aI l 3) else 0), .i (bif rlOk (aI l 0) (aI l 1) (aI l 2) (aI l 3) (aI l 4) (aI l 5) (aI l 6) (aI l 7) then eL (aI l 3) else 0), .i (bif rlOk (aI l 0) (aI l 1) (aI l 2) (aI l 3) (aI l 4) (aI l 5) (aI l 6) (aI l 7) then eK (aI l 4) else 0), .i (bif rlOk (aI l 0) (aI l 1) (aI l 2) (aI l 3) (aI l 4) (aI l 5) (aI l 6) (aI l 7) then eV (aI l 4) else 0), .i (bif rlOk (aI l 0) (aI l 1) (aI l 2) (aI l 3) (aI l 4) (aI l 5) (aI l 6) (aI l 7) then eL (aI l 4) else 0), .i (bif rlOk (aI l 0) (aI l 1) (aI l 2) (aI l 3) (aI l 4) (aI l 5) (aI l 6) (aI l 7) then eK (aI l 5) else 0), .i (bif rlOk (aI l 0) (aI l 1) (aI l 2) (aI l 3) (aI l 4) (aI l 5) (aI l 6) (aI l 7) then eV (aI l 5) else 0), .i (bif rlOk (aI l 0) (aI l 1) (aI l 2) (aI l 3) (aI l 4) (aI l 5) (aI l 6) (aI l 7) then eL (aI l 5) else 0), .i (bif rlOk (aI l 0) (aI l 1) (aI l 2) (aI l 3) (aI l 4) (aI l 5) (aI l 6) (aI l 7) then eK (aI l 6) else 0), .i (bif rlOk (aI l 0) (aI l 1) (aI l 2) (aI l 3) (aI l 4) (aI l 5) (aI l 6) (aI l 7) then eV (aI l 6) else 0), .i (bif rlOk (aI l 0) (aI l 1) (aI l 2) (aI l 3) (aI l 4) (aI l 5) (aI l 6) (aI l 7) then eL (aI l 6) else 0), .b (rlOk (aI l 0) (aI l 1) (aI l 2) (aI l 3) (aI l 4) (aI l 5) (aI l 6) (aI l 7))]) .no

theorem rl_no {x0 x1 x2 x3 x4 x5 x6 x7 : Int} (h : rlOk x0 x1 x2 x3 x4 x5 x6 x7 = false) : ([.i 0, .i 0, .i 0, .i 0, .i 0, .i 0, .i 0, .i 0, .i 0, .i 0, .i 0, .i 0, .i 0, .i 0, .i 0, .i 0, .i 0, .i 0, .i 0, .i 0, .i 0, .b false] : List At) = [.i (bif rlOk x0 x1 x2 x3 x4 x5 x6 x7 then eK x0 else 0), .i (bif rlOk x0 x1 x2 x3 x4 x5 x6 x7 then eV x0 else 0), .i (bif rlOk x0 x1 x2 x3 x4 x5 x6 x7 then eL x0 else 0), .i (bif rlOk x0 x1 x2 x3 x4 x5 x6 x7 then eK x1 else 0), .i (bif rlOk x0 x1 x2 x3 x4 x5 x6 x7 then eV x1 else 0), .i (bif rlOk x0 x1 x2 x3 x4 x5 x6 x7 then eL x1 else 0), .i (bif rlOk x0 x1 x2 x3 x4 x5 x6 x7 then eK x2 else 0), .i (bif rlOk x0 x1 x2 x3 x4 x5 x6 x7 then eV x2 else 0), .i (bif rlOk x0 x1 x2 x3 x4 x5 x6 x7 then eL x2 else 0), .i (bif rlOk x0 x1 x2 x3 x4 x5 x6 x7 then eK x3 else 0), .i (bif rlOk x0 x1 x2 x3 x4 x5 x6 x7 then eV x3 else 0), .i (bif rlOk x0 x1 x2 x3 x4 x5 x6 x7 then eL x3 else 0), .i (bif rlOk x0 x1 x2 x3 x4 x5 x6 x7 then eK x4 else 0), .i (bif rlOk x0 x1 x2 x3 x4 x5 x6 x7 then eV x4 else 0), .i (bif rlOk x0 x1 x2 x3 x4 x5 x6 x7 then eL x4 else 0), .i (bif rlOk x0 x1 x2 x3 x4 x5 x6 x7 then eK x5 else 0), .i (bif rlOk x0 x1 x2 x3 x4 x5 x6 x7 then eV x5 else 0), .i (bif rlOk x0 x1 x2 x3 x4 x5 x6 x7 then eL x5 else 0), .i (bif rlOk x0 x1 x2 x3 x4 x5 x6 x7 then eK x6 else 0), .i (bif rlOk x0 x1 x2 x3 x4 x5 x6 x7 then eV x6 else 0), .i (bif rlOk x0 x1 x2 x3 x4 x5 x6 x7 then eL x6 else 0), .b (rlOk x0 x1 x2 x3 x4 x5 x6 x7)] := by simp only [h, cond_false]
theorem rl_yes {x0 x1 x2 x3 x4 x5 x6 x7 : Int} (h : rlOk x0 x1 x2 x3 x4 x5 x6 x7 = true) : ([.i (eK x0), .i (eV x0), .i (eL x0), .i (eK x1), .i (eV x1), .i (eL x1), .i (eK x2), .i (eV x2), .i (eL x2), .i (eK x3), .i (eV x3), .i (eL x3), .i (eK x4), .i (eV x4), .i (eL x4), .i (eK x5), .i (eV x5), .i (eL x5), .i (eK x6), .i (eV x6), .i (eL x6), .b true] : List At) = [.i (bif rlOk x0 x1 x2 x3 x4 x5 x6 x7 then eK x0 else 0), .i (bif rlOk x0 x1 x2 x3 x4 x5 x6 x7 then eV x0 else 0), .i (bif rlOk x0 x1 x2 x3 x4 x5 x6 x7 then eL x0 else 0), .i (bif rlOk x0 x1 x2 x3 x4 x5 x6 x7 then eK x1 else 0), .i (bif rlOk x0 x1 x2 x3 x4 x5 x6 x7 then eV x1 else 0), .i (bif rlOk x0 x1 x2 x3 x4 x5 x6 x7 then eL x1 else 0), .i (bif rlOk x0 x1 x2 x3 x4 x5 x6 x7 then eK x2 else 0), .i (bif rlOk x0 x1 x2 x3 x4 x5 x6 x7 then eV x2 else 0), .i (bif rlOk x0 x1 x2 x3 x4 x5 x6 x7 then eL x2 else 0), .i (bif rlOk x0 x1 x2 x3 x4 x5 x6 x7 then eK x3 else 0), .i (bif rlOk x0 x1 x2 x3 x4 x5 x6 x7 then eV x3 else 0), .i (bif rlOk x0 x1 x2 x3 x4 x5 x6 x7 then eL x3 else 0), .i (bif rlOk x0 x1 x2 x3 x4 x5 x6 x7 then eK x4 else 0), .i (bif rlOk x0 x1 x2 x3 x4 x5 x6 x7 then eV x4 else 0), .i (bif rlOk x0 x1 x2 x3 x4 x5 x6 x7 then eL x4 else 0), .i (bif rlOk x0 x1 x2 x3 x4 x5 x6 x7 then eK x5 else 0), .i (bif rlOk x0 x1 x2 x3 x4 x5 x6 x7 then eV x5 else 0), .i (bif rlOk x0 x1 x2 x3 x4 x5 x6 x7 then eL x5 else 0), .i (bif rlOk x0 x1 x2 x3 x4 x5 x6 x7 then eK x6 else 0), .i (bif rlOk x0 x1 x2 x3 x4 x5 x6 x7 then eV x6 else 0), .i (bif rlOk x0 x1 x2 x3 x4 x5 x6 x7 then eL x6 else 0), .b (rlOk x0 x1 x2 x3 x4 x5 x6 x7)] := by simp only [h, cond_true]

theorem t_gRL {x0 x1 x2 x3 x4 x5 x6 x7 : Int} (hr : (0 ≤ x0 ∧ x0 < 18446744073709551616) ∧ (0 ≤ x1 ∧ x1 < 18446744073709551616) ∧ (0 ≤ x2 ∧ x2 < 18446744073709551616) ∧ (0 ≤ x3 ∧ x3 < 18446744073709551616) ∧ (0 ≤ x4 ∧ x4 < 18446744073709551616) ∧ (0 ≤ x5 ∧ x5 < 18446744073709551616) ∧ (0 ≤ x6 ∧ x6 < 18446744073709551616)) : (T_gRL x0 x1 x2 x3 x4 x5 x6 x7).sat fun r => r = [.i (bif rlOk x0 x1 x2 x3 x4 x5 x6 x7 then eK x0 else 0), .i (bif rlOk x0 x1 x2 x3 x4 x5 x6 x7 then eV x0 else 0), .i (bif rlOk x0 x1 x2 x3 x4 x5 x6 x7 then eL x0 else 0), .i (bif rlOk x0 x1 x2 x3 x4 x5 x6 x7 then eK x1 else 0), .i (bif rlOk x0 x1 x2 x3 x4 x5 x6 x7 then eV x1 else 0), .i (bif rlOk x0 x1 x2 x3 x4 x5 x6 x7 then eL x1 else 0), .i (bif rlOk x0 x1 x2 x3 x4 x5 x6 x7 then eK x2 else 0), .i (bif rlOk x0 x1 x2 x3 x4 x5 x6 x7 then eV x2 else 0), .i (bif rlOk x0 x1 x2 x3 x4 x5 x6 x7 then eL x2 else 0), .i (bif rlOk x0 x1 x2 x3 x4 x5 x6 x7 then eK x3 else 0), .i (bif rlOk x0 x1 x2 x3 x4 x5 x6 x7 then eV x3 else 0), .i (bif rlOk x0 x1 x2 x3 x4 x5 x6 x7 then eL x3 else 0), .i (bif rlOk x0 x1 x2 x3 x4 x5 x6 x7 then eK x4 else 0), .i (bif rlOk x0 x1 x2 x3 x4 x5 x6 x7 then eV x4 else 0), .i (bif rlOk x0 x1 x2 x3 x4 x5 x6 x7 then eL x4 else 0), .i (bif rlOk x0 x1 x2 x3 x4 x5 x6 x7 then eK x5 else 0), .i (bif rlOk x0 x1 x2 x3 x4 x5 x6 x7 then eV x5 else 0), .i (bif rlOk x0 x1 x2 x3 x4 x5 x6 x7 then eL x5 else 0), .i (bif rlOk x0 x1 x2 x3 x4 x5 x6 x7 then eK x6 else 0), .i (bif rlOk x0 x1 x2 x3 x4 x5 x6 x7 then eV x6 else 0), .i (bif rlOk x0 x1 x2 x3 x4 x5 x6 x7 then eL x6 else 0), .b (rlOk x0 x1 x2 x3 x4 x5 x6 x7)] := by
  obtain ⟨r0, r1, r2, r3, r4, r5, r6⟩ := hr
  unfold T_gRL
  refine brT (decide_eq_true ⟨r0.1, r1.1, r2.1, r3.1, r4.1, r5.1, r6.1⟩) (brN (fun hs => Tr.sat_ok.2 (rl_no (by unfold rlOk; rw [hs]; rfl))) (fun hs => ?_))
  refine brT (decide_eq_true r0) (brN (fun h0 => Tr.sat_ok.2 (rl_no (by unfold rlOk; rw [h0]; simp))) (fun h0 => ?_))
  refine brT (decide_eq_true r1) (brN (fun h1 => Tr.sat_ok.2 (rl_no (by unfold rlOk; rw [h0, h1]; simp))) (fun h1 => ?_))
  refine brT (decide_eq_true r2) (brN (fun h2 => Tr.sat_ok.2 (rl_no (by unfold rlOk; rw [h0, h1, h2]; simp))) (fun h2 => ?_))
  refine brT (decide_eq_true r3) (brN (fun h3 => Tr.sat_ok.2 (rl_no (by unfold rlOk; rw [h0, h1, h2, h3]; simp))) (fun h3 => ?_))
  refine brT (decide_eq_true r4) (brN (fun h4 => Tr.sat_ok.2 (rl_no (by unfold rlOk; rw [h0, h1, h2, h3, h4]; simp))) (fun h4 => ?_))
  refine brT (decide_eq_true r5) (brN (fun h5 => Tr.sat_ok.2 (rl_no (by unfold rlOk; rw [h0, h1, h2, h3, h4, h5]; simp))) (fun h5 => ?_))
  refine brT (decide_eq_true r6) (brN (fun h6 => Tr.sat_ok.2 (rl_no (by unfold rlOk; rw [h0, h1, h2, h3, h4, h5, h6]; simp))) (fun h6 => ?_))
  refine Tr.sat_ok.2 ?_
  rw [← rl_yes (by unfold rlOk; rw [hs, h0, h1, h2, h3, h4, h5, h6]; rfl), h0, h1, h2, h3, h4, h5, h6]
  rfl

theorem t_rRL {x0 x1 x2 x3 x4 x5 x6 x7 : Int} (hr : (0 ≤ x0 ∧ x0 < 18446744073709551616) ∧ (0 ≤ x1 ∧ x1 < 18446744073709551616) ∧ (0 ≤ x2 ∧ x2 < 18446744073709551616) ∧ (0 ≤ x3 ∧ x3 < 18446744073709551616) ∧ (0 ≤ x4 ∧ x4 < 18446744073709551616) ∧ (0 ≤ x5 ∧ x5 < 18446744073709551616) ∧ (0 ≤ x6 ∧ x6 < 18446744073709551616)) : (T_rRL x0 x1 x2 x3 x4 x5 x6 x7).sat fun r => r = [.i (bif rlOk x0 x1 x2 x3 x4 x5 x6 x7 then eK x0 else 0), .i (bif rlOk x0 x1 x2 x3 x4 x5 x6 x7 then eV x0 else 0), .i (bif rlOk x0 x1 x2 x3 x4 x5 x6 x7 then eL x0 else 0), .i (bif rlOk x0 x1 x2 x3 x4 x5 x6 x7 then eK x1 else 0), .i (bif rlOk x0 x1 x2 x3 x4 x5 x6 x7 then eV x1 else 0), .i (bif rlOk x0 x1 x2 x3 x4 x5 x6 x7 then eL x1 else 0), .i (bif rlOk x0 x1 x2 x3 x4 x5 x6 x7 then eK x2 else 0), .i (bif rlOk x0 x1 x2 x3 x4 x5 x6 x7 then eV x2 else 0), .i (bif rlOk x0 x1 x2 x3 x4 x5 x6 x7 then eL x2 else 0), .i (bif rlOk x0 x1 x2 x3 x4 x5 x6 x7 then eK x3 else 0), .i (bif rlOk x0 x1 x2 x3 x4 x5 x6 x7 then eV x3 else 0), .i (bif rlOk x0 x1 x2 x3 x4 x5 x6 x7 then eL x3 else 0), .i (bif rlOk x0 x1 x2 x3 x4 x5 x6 x7 then eK x4 else 0), .i (bif rlOk x0 x1 x2 x3 x4 x5 x6 x7 then eV x4 else 0), .i (bif rlOk x0 x1 x2 x3 x4 x5 x6 x7 then eL x4 else 0), .i (bif rlOk x0 x1 x2 x3 x4 x5 x6 x7 then eK x5 else 0), .i (bif rlOk x0 x1 x2 x3 x4 x5 x6 x7 then eV x5 else 0), .i (bif rlOk x0 x1 x2 x3 x4 x5 x6 x7 then eL x5 else 0), .i (bif rlOk x0 x1 x2 x3 x4 x5 x6 x7 then eK x6 else 0), .i (bif rlOk x0 x1 x2 x3 x4 x5 x6 x7 then eV x6 else 0), .i (bif rlOk x0 x1 x2 x3 x4 x5 x6 x7 then eL x6 else 0), .b (rlOk x0 x1 x2 x3 x4 x5 x6 x7)] := by
  obtain ⟨r0, r1, r2, r3, r4, r5, r6⟩ := hr
  have hg := decide_eq_true (p := (0 : Int) ≤ x0 ∧ (0 : Int) ≤ x1 ∧ (0 : Int) ≤ x2 ∧ (0 : Int) ≤ x3 ∧ (0 : Int) ≤ x4 ∧ (0 : Int) ≤ x5 ∧ (0 : Int) ≤ x6) ⟨r0.1, r1.1, r2.1, r3.1, r4.1, r5.1, r6.1⟩
  unfold T_rRL
  refine brT (decide_eq_true r0) (brN (fun h0 => Tr.sat_ok.2 (rl_no (by unfold rlOk; rw [h0]; simp))) (fun h0 => ?_))
  refine brT hg (brN (fun hs => Tr.sat_ok.2 (rl_no (by unfold rlOk; rw [hs]; rfl))) (fun hs => ?_))
  refine brT (decide_eq_true r1) (brN (fun h1 => Tr.sat_ok.2 (rl_no (by unfold rlOk; rw [h0, h1]; simp))) (fun h1 => ?_))
  refine brT hg (brN (fun hs => Tr.sat_ok.2 (rl_no (by unfold rlOk; rw [hs]; rfl))) (fun hs => ?_))
  refine brT (decide_eq_true r2) (brN (fun h2 => Tr.sat_ok.2 (rl_no (by unfold rlOk; rw [h0, h1, h2]; simp))) (fun h2 => ?_))
  refine brT hg (brN (fun hs => Tr.sat_ok.2 (rl_no (by unfold rlOk; rw [hs]; rfl))) (fun hs => ?_))
  refine brT (decide_eq_true r3) (brN (fun h3 => Tr.sat_ok.2 (rl_no (by unfold rlOk; rw [h0, h1, h2, h3]; simp))) (fun h3 => ?_))
  refine brT hg (brN (fun hs => Tr.sat_ok.2 (rl_no (by unfold rlOk; rw [hs]; rfl))) (fun hs => ?_))
  refine brT (decide_eq_true r4) (brN (fun h4 => Tr.sat_ok.2 (rl_no (by unfold rlOk; rw [h0, h1, h2, h3, h4]; simp))) (fun h4 => ?_))
  refine brT hg (brN (fun hs => Tr.sat_ok.2 (rl_no (by unfold rlOk; rw [hs]; rfl))) (fun hs => ?_))
  refine brT (decide_eq_true r5) (brN (fun h5 => Tr.sat_ok.2 (rl_no (by unfold rlOk; rw [h0, h1, h2, h3, h4, h5]; simp))) (fun h5 => ?_))
  refine brT hg (brN (fun hs => Tr.sat_ok.2 (rl_no (by unfold rlOk; rw [hs]; rfl))) (fun hs => ?_))
  refine brT (decide_eq_true r6) (brN (fun h6 => Tr.sat_ok.2 (rl_no (by unfold rlOk; rw [h0, h1, h2, h3, h4, h5, h6]; simp))) (fun h6 => ?_))
  refine brT hg (brN (fun hs => Tr.sat_ok.2 (rl_no (by unfold rlOk; rw [hs]; rfl))) (fun hs => ?_))
  refine Tr.sat_ok.2 ?_
  rw [← rl_yes (by unfold rlOk; rw [hs, h0, h1, h2, h3, h4, h5, h6]; rfl), h0, h1, h2, h3, h4, h5, h6]
  rfl

def rootOk (x0 x1 x2 x3 x4 x5 x6 : Int) : Bool := decide (0 ≤ x0 ∧ x0 < 1024 ∧ 0 ≤ x1 ∧ x1 < 1024 ∧ 0 ≤ x2 ∧ x2 < 1024 ∧ 0 ≤ x3 ∧ x3 < 1024 ∧ 0 ≤ x4 ∧ x4 < 1024 ∧ 0 ≤ x5 ∧ x5 < 1024 ∧ 0 ≤ x6 ∧ x6 < 1024)
def rootSeal (x0 x1 x2 x3 x4 x5 x6 : Int) : Int := sealI (x0 + 4294967296) (x1 + 4294967296) (x2 + 4294967296) (x3 + 4294967296) (x4 + 4294967296) (x5 + 4294967296) (x6 + 4294967296)
def F2_Root (l : List At) : Tr (List At) := .ok [.i (bif rootOk (aI l 0) (aI l 1) (aI l 2) (aI l 3) (aI l 4) (aI l 5) (aI l 6) then (aI l 0) + 4294967296 else 0), .i (bif rootOk (aI l 0) (aI l 1) (aI l 2) (aI l 3) (aI l 4) (aI l 5) (aI l 6) then (aI l 1) + 4294967296 else 0), .i (bif rootOk (aI l 0) (aI l 1) (aI l 2) (aI l 3) (aI l 4) (aI l 5) (aI l 6) then (aI l 2) + 4294967296 else 0), .i (bif rootOk (aI l 0) (aI l 1) (aI l 2) (aI l 3) (aI l 4) (aI l 5) (aI l 6) then (aI l 3) + 4294967296 else 0), .i (bif rootOk (aI l 0) (aI l 1) (aI l 2) (aI l 3) (aI l 4) (aI l 5) (aI l 6) then (aI l 4) + 4294967296 else 0), .i (bif rootOk (aI l 0) (aI l 1) (aI l 2) (aI l 3) (aI l 4) (aI l 5) (aI l 6) then (aI l 5) + 4294967296 else 0), .i (bif rootOk (aI l 0) (aI l 1) (aI l 2) (aI l 3) (aI l 4) (aI l 5) (aI l 6) then (aI l 6) + 4294967296 else 0), .i (bif rootOk (aI l 0) (aI l 1) (aI l 2) (aI l 3) (aI l 4) (aI l 5) (aI l 6) then rootSeal (aI l 0) (aI l 1) (aI l 2) (aI l 3) (aI l 4) (aI l 5) (aI l 6) else 0), .i (bif rootOk (aI l 0) (aI l 1) (aI l 2) (aI l 3) (aI l 4) (aI l 5) (aI l 6) then 0 else 1)]

theorem root_no {x0 x1 x2 x3 x4 x5 x6 : Int} (h : ¬ (0 ≤ x0 ∧ x0 < 1024 ∧ 0 ≤ x1 ∧ x1 < 1024 ∧ 0 ≤ x2 ∧ x2 < 1024 ∧ 0 ≤ x3 ∧ x3 < 1024 ∧ 0 ≤ x4 ∧ x4 < 1024 ∧ 0 ≤ x5 ∧ x5 < 1024 ∧ 0 ≤ x6 ∧ x6 < 1024)) : ([.i 0, .i 0, .i 0, .i 0, .i 0, .i 0, .i 0, .i 0, .i 1] : List At) = [.i (bif rootOk x0 x1 x2 x3 x4 x5 x6 then x0 + 4294967296 else 0), .i (bif rootOk x0 x1 x2 x3 x4 x5 x6 then x1 + 4294967296 else 0), .i (bif rootOk x0 x1 x2 x3 x4 x5 x6 then x2 + 4294967296 else 0), .i (bif rootOk x0 x1 x2 x3 x4 x5 x6 then x3 + 4294967296 else 0), .i (bif rootOk x0 x1 x2 x3 x4 x5 x6 then x4 + 4294967296 else 0), .i (bif rootOk x0 x1 x2 x3 x4 x5 x6 then x5 + 4294967296 else 0), .i (bif rootOk x0 x1 x2 x3 x4 x5 x6 then x6 + 4294967296 else 0), .i (bif rootOk x0 x1 x2 x3 x4 x5 x6 then rootSeal x0 x1 x2 x3 x4 x5 x6 else 0), .i (bif rootOk x0 x1 x2 x3 x4 x5 x6 then 0 else 1)] := by
  have h : rootOk x0 x1 x2 x3 x4 x5 x6 = false := decide_eq_false h
  simp only [h, cond_false]
theorem root_yes {x0 x1 x2 x3 x4 x5 x6 : Int} (h : 0 ≤ x0 ∧ x0 < 1024 ∧ 0 ≤ x1 ∧ x1 < 1024 ∧ 0 ≤ x2 ∧ x2 < 1024 ∧ 0 ≤ x3 ∧ x3 < 1024 ∧ 0 ≤ x4 ∧ x4 < 1024 ∧ 0 ≤ x5 ∧ x5 < 1024 ∧ 0 ≤ x6 ∧ x6 < 1024) : ([.i (x0 + 4294967296), .i (x1 + 4294967296), .i (x2 + 4294967296), .i (x3 + 4294967296), .i (x4 + 4294967296), .i (x5 + 4294967296), .i (x6 + 4294967296), .i (sealI (x0 + 4294967296) (x1 + 4294967296) (x2 + 4294967296) (x3 + 4294967296) (x4 + 4294967296) (x5 + 4294967296) (x6 + 4294967296)), .i 0] : List At) = [.i (bif rootOk x0 x1 x2 x3 x4 x5 x6 then x0 + 4294967296 else 0), .i (bif rootOk x0 x1 x2 x3 x4 x5 x6 then x1 + 4294967296 else 0), .i (bif rootOk x0 x1 x2 x3 x4 x5 x6 then x2 + 4294967296 else 0), .i (bif rootOk x0 x1 x2 x3 x4 x5 x6 then x3 + 4294967296 else 0), .i (bif rootOk x0 x1 x2 x3 x4 x5 x6 then x4 + 4294967296 else 0), .i (bif rootOk x0 x1 x2 x3 x4 x5 x6 then x5 + 4294967296 else 0), .i (bif rootOk x0 x1 x2 x3 x4 x5 x6 then x6 + 4294967296 else 0), .i (bif rootOk x0 x1 x2 x3 x4 x5 x6 then rootSeal x0 x1 x2 x3 x4 x5 x6 else 0), .i (bif rootOk x0 x1 x2 x3 x4 x5 x6 then 0 else 1)] := by
  have h : rootOk x0 x1 x2 x3 x4 x5 x6 = true := decide_eq_true h
  simp only [h, cond_true]
  rfl
theorem mark_or {x : Int} (h0 : 0 ≤ x) (h1 : x < 1024) : bits BinOp.or IntKind.u64 (4294967296 : Int) (IntKind.wrap IntKind.u64 x) = x + 4294967296 ∧ bits BinOp.or IntKind.u64 (IntKind.wrap IntKind.u64 x) (4294967296 : Int) = x + 4294967296 := by
  obtain ⟨n, rfl⟩ := Int.eq_ofNat_of_zero_le h0
  have hn : n < 1024 := by omega
  rw [wrap_u64_nat (by omega)]
  have e1 : bits BinOp.or IntKind.u64 ((4294967296 : Nat) : Int) (n : Int) = ((4294967296 ||| n : Nat) : Int) := bits_or_u64_nat _ _ (by decide) (by omega)
  have e2 : bits BinOp.or IntKind.u64 (n : Int) ((4294967296 : Nat) : Int) = ((n ||| 4294967296 : Nat) : Int) := bits_or_u64_nat _ _ (by omega) (by decide)
  have e3 := or_mark (n := n) (by omega)
  refine ⟨?_, ?_⟩
  · refine e1.trans ?_
    rw [e3]; omega
  · refine e2.trans ?_
    rw [Nat.or_comm, e3]; omega

theorem t_gRoot (x0 x1 x2 x3 x4 x5 x6 : Int) : (T_gRoot x0 x1 x2 x3 x4 x5 x6).sat fun r => r = [.i (bif rootOk x0 x1 x2 x3 x4 x5 x6 then x0 + 4294967296 else 0), .i (bif rootOk x0 x1 x2 x3 x4 x5 x6 then x1 + 4294967296 else 0), .i (bif rootOk x0 x1 x2 x3 x4 x5 x6 then x2 + 4294967296 else 0), .i (bif rootOk x0 x1 x2 x3 x4 x5 x6 then x3 + 4294967296 else 0), .i (bif rootOk x0 x1 x2 x3 x4 x5 x6 then x4 + 4294967296 else 0), .i (bif rootOk x0 x1 x2 x3 x4 x5 x6 then x5 + 4294967296 else 0), .i (bif rootOk x0 x1 x2 x3 x4 x5 x6 then x6 + 4294967296 else 0), .i (bif rootOk x0 x1 x2 x3 x4 x5 x6 then rootSeal x0 x1 x2 x3 x4 x5 x6 else 0), .i (bif rootOk x0 x1 x2 x3 x4 x5 x6 then 0 else 1)] := by
  unfold T_gRoot
  refine brD (fun h => Tr.sat_ok.2 (root_no (by omega))) (fun a0 => brD (fun h => Tr.sat_ok.2 (root_no (by omega))) (fun b0 => ?_))
  refine brD (fun h => Tr.sat_ok.2 (root_no (by omega))) (fun a1 => brD (fun h => Tr.sat_ok.2 (root_no (by omega))) (fun b1 => ?_))
  refine brD (fun h => Tr.sat_ok.2 (root_no (by omega))) (fun a2 => brD (fun h => Tr.sat_ok.2 (root_no (by omega))) (fun b2 => ?_))
  refine brD (fun h => Tr.sat_ok.2 (root_no (by omega))) (fun a3 => brD (fun h => Tr.sat_ok.2 (root_no (by omega))) (fun b3 => ?_))
  refine brD (fun h => Tr.sat_ok.2 (root_no (by omega))) (fun a4 => brD (fun h => Tr.sat_ok.2 (root_no (by omega))) (fun b4 => ?_))
  refine brD (fun h => Tr.sat_ok.2 (root_no (by omega))) (fun a5 => brD (fun h => Tr.sat_ok.2 (root_no (by omega))) (fun b5 => ?_))
  refine brD (fun h => Tr.sat_ok.2 (root_no (by omega))) (fun a6 => brD (fun h => Tr.sat_ok.2 (root_no (by omega))) (fun b6 => ?_))
  rw [(mark_or (x := x0) (by omega) (by omega)).1, (mark_or (x := x1) (by omega) (by omega)).1, (mark_or (x := x2) (by omega) (by omega)).1, (mark_or (x := x3) (by omega) (by omega)).1, (mark_or (x := x4) (by omega) (by omega)).1, (mark_or (x := x5) (by omega) (by omega)).1, (mark_or (x := x6) (by omega) (by omega)).1]
  exact brT (decide_eq_true (by omega)) (Tr.sat_ok.2 (root_yes (by omega)))

theorem t_rRoot (x0 x1 x2 x3 x4 x5 x6 : Int) : (T_rRoot x0 x1 x2 x3 x4 x5 x6).sat fun r => r = [.i (bif rootOk x0 x1 x2 x3 x4 x5 x6 then x0 + 4294967296 else 0), .i (bif rootOk x0 x1 x2 x3 x4 x5 x6 then x1 + 4294967296 else 0), .i (bif rootOk x0 x1 x2 x3 x4 x5 x6 then x2 + 4294967296 else 0), .i (bif rootOk x0 x1 x2 x3 x4 x5 x6 then x3 + 4294967296 else 0), .i (bif rootOk x0 x1 x2 x3 x4 x5 x6 then x4 + 4294967296 else 0), .i (bif rootOk x0 x1 x2 x3 x4 x5 x6 then x5 + 4294967296 else 0), .i (bif rootOk x0 x1 x2 x3 x4 x5 x6 then x6 + 4294967296 else 0), .i (bif rootOk x0 x1 x2 x3 x4 x5 x6 then rootSeal x0 x1 x2 x3 x4 x5 x6 else 0), .i (bif rootOk x0 x1 x2 x3 x4 x5 x6 then 0 else 1)] := by
  unfold T_rRoot
  refine brD (fun h => Tr.sat_ok.2 (root_no (by omega))) (fun a0 => brD (fun h => Tr.sat_ok.2 (root_no (by omega))) (fun b0 => ?_))
  refine brD (fun h => Tr.sat_ok.2 (root_no (by omega))) (fun a1 => brD (fun h => Tr.sat_ok.2 (root_no (by omega))) (fun b1 => ?_))
  refine brD (fun h => Tr.sat_ok.2 (root_no (by omega))) (fun a2 => brD (fun h => Tr.sat_ok.2 (root_no (by omega))) (fun b2 => ?_))
  refine brD (fun h => Tr.sat_ok.2 (root_no (by omega))) (fun a3 => brD (fun h => Tr.sat_ok.2 (root_no (by omega))) (fun b3 => ?_))
  refine brD (fun h => Tr.sat_ok.2 (root_no (by omega))) (fun a4 => brD (fun h => Tr.sat_ok.2 (root_no (by omega))) (fun b4 => ?_))
  refine brD (fun h => Tr.sat_ok.2 (root_no (by omega))) (fun a5 => brD (fun h => Tr.sat_ok.2 (root_no (by omega))) (fun b5 => ?_))
  refine brD (fun h => Tr.sat_ok.2 (root_no (by omega))) (fun a6 => brD (fun h => Tr.sat_ok.2 (root_no (by omega))) (fun b6 => ?_))
  rw [(mark_or (x := x0) (by omega) (by omega)).2, (mark_or (x := x1) (by omega) (by omega)).2, (mark_or (x := x2) (by omega) (by omega)).2, (mark_or (x := x3) (by omega) (by omega)).2, (mark_or (x := x4) (by omega) (by omega)).2, (mark_or (x := x5) (by omega) (by omega)).2, (mark_or (x := x6) (by omega) (by omega)).2]
  exact brT (decide_eq_true (by omega)) (Tr.sat_ok.2 (root_yes (by omega)))

theorem h_gRL : ∀ l r, (F2_RL l).val = some r → ∃ r', ((call Try.prog Γ_SX y_gRL noLoops 100 Try.f13 (mkV ish_gRL l) (mkH ish_gRL l)).bind (leafO 0 osh_gRL)).val = some r' ∧ AtsEq r' r := by
  intro l r h
  obtain ⟨hc, h⟩ := guard_val h
  have := val_ok h
  subst this
  obtain ⟨r', h1, h2⟩ := t_gRL (x7 := aI l 7) (of_decide_eq_true hc)
  exact ⟨r', by rw [e_gRL]; exact h1, by rw [h2]; exact AtsEq.refl _⟩
theorem s2_gRL : SpecF Try.prog 13 (.pure (locP ish_gRL osh_gRL F2_RL)) :=
  spec_locP (sy := y_gRL) (fuel := 100) (Lp := noLoops) o_SX mixed ⟨Try.func13, by kernel_rfl, by kernel_rfl⟩ ish_gRL osh_gRL rfl (noLoops_ok _) h_gRL

theorem h_rRL : ∀ l r, (F2_RL l).val = some r → ∃ r', ((call Try.prog Γ_gRL y_rRL noLoops 100 Try.f14 (mkV ish_rRL l) (mkH ish_rRL l)).bind (leafO 0 osh_rRL)).val = some r' ∧ AtsEq r' r := by
  intro l r h
  obtain ⟨hc, h⟩ := guard_val h
  have := val_ok h
  subst this
  obtain ⟨r', h1, h2⟩ := t_rRL (x7 := aI l 7) (of_decide_eq_true hc)
  exact ⟨r', by rw [e_rRL]; exact h1, by rw [h2]; exact AtsEq.refl _⟩
theorem s2_rRL : SpecF Try.prog 14 (.pure (locP ish_rRL osh_rRL F2_RL)) :=
  spec_locP (sy := y_rRL) (fuel := 100) (Lp := noLoops) o_gRL mixed ⟨Try.func14, by kernel_rfl, by kernel_rfl⟩ ish_rRL osh_rRL rfl (noLoops_ok _) h_rRL

theorem h_gRoot : ∀ l r, (F2_Root l).val = some r → ∃ r', ((call Try.prog Γ_rRL y_gRoot noLoops 100 Try.f15 (mkV ish_gRoot l) (mkH ish_gRoot l)).bind (leafO 0 osh_gRoot)).val = some r' ∧ AtsEq r' r := by
  intro l r h
  have := val_ok h
  subst this
  obtain ⟨r', h1, h2⟩ := t_gRoot (aI l 0) (aI l 1) (aI l 2) (aI l 3) (aI l 4) (aI l 5) (aI l 6)
  exact ⟨r', by rw [e_gRoot]; exact h1, by rw [h2]; exact AtsEq.refl _⟩
theorem s2_gRoot : SpecF Try.prog 15 (.pure (locP ish_gRoot osh_gRoot F2_Root)) :=
  spec_locP (sy := y_gRoot) (fuel := 100) (Lp := noLoops) o_rRL mixed ⟨Try.func15, by kernel_rfl, by kernel_rfl⟩ ish_gRoot osh_gRoot rfl (noLoops_ok _) h_gRoot

theorem h_rRoot : ∀ l r, (F2_Root l).val = some r → ∃ r', ((call Try.prog Γ_gRoot y_rRoot noLoops 100 Try.f16 (mkV ish_rRoot l) (mkH ish_rRoot l)).bind (leafO 0 osh_rRoot)).val = some r' ∧ AtsEq r' r := by
  intro l r h
  have := val_ok h
  subst this
  obtain ⟨r', h1, h2⟩ := t_rRoot (aI l 0) (aI l 1) (aI l 2) (aI l 3) (aI l 4) (aI l 5) (aI l 6)
  exact ⟨r', by rw [e_rRoot]; exact h1, by rw [h2]; exact AtsEq.refl _⟩
theorem s2_rRoot : SpecF Try.prog 16 (.pure (locP ish_rRoot osh_rRoot F2_Root)) :=
  spec_locP (sy := y_rRoot) (fuel := 100) (Lp := noLoops) o_gRoot mixed ⟨Try.func16, by kernel_rfl, by kernel_rfl⟩ ish_rRoot osh_rRoot rfl (noLoops_ok _) h_rRoot
def Γ_SY : Specs := (upd (upd (upd (upd Γ_rRoot 13 (.pure (locP ish_gRL osh_gRL F2_RL))) 14 (.pure (locP ish_rRL osh_rRL F2_RL))) 15 (.pure (locP ish_gRoot osh_gRoot F2_Root))) 16 (.pure (locP ish_rRoot osh_rRoot F2_Root)))
theorem o_SY : SpecOK Try.prog Γ_SY := (SpecOK.upd (SpecOK.upd (SpecOK.upd (SpecOK.upd o_rRoot s2_gRL) s2_rRL) s2_gRoot) s2_rRoot)
end Go.Proofs.Ytobikddlkoibjaa.G
end

/-
  What functions of the seat compute, printed by a program from the explorer.
-/
section
namespace Go.Proofs.Ytobikddlkoibjaa.G
open Go Go.AM Go.Proofs
/-! ### gRR -/

def ish_gRR : FSh := ⟨[.v true [.k (.n .u64), .k (.n .u64), .k (.n .u64), .k (.n .u64), .k (.n .u64), .k (.n .u64), .k (.n .u64), .k (.n .u64)]], []⟩
def osh_gRR : FSh := ⟨[.tup [(true, [.k (.n .i64), .k (.n .i64), .k (.n .i64), .k (.n .i64), .k (.n .i64), .k (.n .i64), .k (.n .i64)]), (false, [.k .b])]], []⟩
def T_gRR (x0 : Int) (x1 : Int) (x2 : Int) (x3 : Int) (x4 : Int) (x5 : Int) (x6 : Int) (x7 : Int) : Tr (List At) :=
 .br 0 (decide ((0 : Int) ≤ x0 ∧ (0 : Int) ≤ x1 ∧ (0 : Int) ≤ x2 ∧ (0 : Int) ≤ x3 ∧ (0 : Int) ≤ x4 ∧ (0 : Int) ≤ x5 ∧ (0 : Int) ≤ x6))
 (.br 9 (!x7 == sealI x0 x1 x2 x3 x4 x5 x6)
 (.ok [(.i ((0 : Int))), (.i ((0 : Int))), (.i ((0 : Int))), (.i ((0 : Int))), (.i ((0 : Int))), (.i ((0 : Int))), (.i ((0 : Int))), (.b (false))])
 (.br 19 (decide (bits BinOp.xor IntKind.u64 x0 (4294967296 : Int) ≥ (1024 : Int)))
 (.ok [(.i ((0 : Int))), (.i ((0 : Int))), (.i ((0 : Int))), (.i ((0 : Int))), (.i ((0 : Int))), (.i ((0 : Int))), (.i ((0 : Int))), (.b (false))])
 (.br 19 (decide (bits BinOp.xor IntKind.u64 x1 (4294967296 : Int) ≥ (1024 : Int)))
 (.ok [(.i ((0 : Int))), (.i ((0 : Int))), (.i ((0 : Int))), (.i ((0 : Int))), (.i ((0 : Int))), (.i ((0 : Int))), (.i ((0 : Int))), (.b (false))])
 (.br 19 (decide (bits BinOp.xor IntKind.u64 x2 (4294967296 : Int) ≥ (1024 : Int)))
 (.ok [(.i ((0 : Int))), (.i ((0 : Int))), (.i ((0 : Int))), (.i ((0 : Int))), (.i ((0 : Int))), (.i ((0 : Int))), (.i ((0 : Int))), (.b (false))])
 (.br 19 (decide (bits BinOp.xor IntKind.u64 x3 (4294967296 : Int) ≥ (1024 : Int)))
 (.ok [(.i ((0 : Int))), (.i ((0 : Int))), (.i ((0 : Int))), (.i ((0 : Int))), (.i ((0 : Int))), (.i ((0 : Int))), (.i ((0 : Int))), (.b (false))])
 (.br 19 (decide (bits BinOp.xor IntKind.u64 x4 (4294967296 : Int) ≥ (1024 : Int)))
 (.ok [(.i ((0 : Int))), (.i ((0 : Int))), (.i ((0 : Int))), (.i ((0 : Int))), (.i ((0 : Int))), (.i ((0 : Int))), (.i ((0 : Int))), (.b (false))])
 (.br 19 (decide (bits BinOp.xor IntKind.u64 x5 (4294967296 : Int) ≥ (1024 : Int)))
 (.ok [(.i ((0 : Int))), (.i ((0 : Int))), (.i ((0 : Int))), (.i ((0 : Int))), (.i ((0 : Int))), (.i ((0 : Int))), (.i ((0 : Int))), (.b (false))])
 (.br 19 (decide (bits BinOp.xor IntKind.u64 x6 (4294967296 : Int) ≥ (1024 : Int)))
 (.ok [(.i ((0 : Int))), (.i ((0 : Int))), (.i ((0 : Int))), (.i ((0 : Int))), (.i ((0 : Int))), (.i ((0 : Int))), (.i ((0 : Int))), (.b (false))])
 (.ok [(.i (IntKind.wrap IntKind.i64 (bits BinOp.xor IntKind.u64 x0 (4294967296 : Int)))), (.i (IntKind.wrap IntKind.i64 (bits BinOp.xor IntKind.u64 x1 (4294967296 : Int)))), (.i (IntKind.wrap IntKind.i64 (bits BinOp.xor IntKind.u64 x2 (4294967296 : Int)))), (.i (IntKind.wrap IntKind.i64 (bits BinOp.xor IntKind.u64 x3 (4294967296 : Int)))), (.i (IntKind.wrap IntKind.i64 (bits BinOp.xor IntKind.u64 x4 (4294967296 : Int)))), (.i (IntKind.wrap IntKind.i64 (bits BinOp.xor IntKind.u64 x5 (4294967296 : Int)))), (.i (IntKind.wrap IntKind.i64 (bits BinOp.xor IntKind.u64 x6 (4294967296 : Int)))), (.b (true))])))))))))
 (.no)
def y_gRR : Nat → Option Nat := (syOf3 [9, 19] [] [])
def TL_gRR (l : List At) : Tr (List At) := T_gRR (aI l 0) (aI l 1) (aI l 2) (aI l 3) (aI l 4) (aI l 5) (aI l 6) (aI l 7)
theorem e_gRR (l : List At) : (call Try.prog Γ_SY y_gRR noLoops 100 Try.f17 (mkV ish_gRR l) (mkH ish_gRR l)).bind (leafO 0 osh_gRR) = TL_gRR l := by kernel_rfl
def F_gRR : List At → Tr (List At) := TL_gRR
theorem s_gRR : SpecF Try.prog 17 (.pure (locP ish_gRR osh_gRR F_gRR)) :=
  spec_locP (sy := y_gRR) (fuel := 100) (Lp := noLoops) o_SY mixed ⟨Try.func17, by kernel_rfl, by kernel_rfl⟩ ish_gRR osh_gRR rfl (noLoops_ok _) (hT_ways e_gRR)
def Γ_gRR : Specs := upd Γ_SY 17 (.pure (locP ish_gRR osh_gRR F_gRR))
theorem o_gRR : SpecOK Try.prog Γ_gRR := SpecOK.upd o_SY s_gRR

/-! ### rRR -/

def ish_rRR : FSh := ⟨[.v true [.k (.n .u64), .k (.n .u64), .k (.n .u64), .k (.n .u64), .k (.n .u64), .k (.n .u64), .k (.n .u64), .k (.n .u64)]], []⟩
def osh_rRR : FSh := ⟨[.tup [(true, [.k (.n .i64), .k (.n .i64), .k (.n .i64), .k (.n .i64), .k (.n .i64), .k (.n .i64), .k (.n .i64)]), (false, [.k .b])]], []⟩
def rRR_c0 (x0 : Int) (x1 : Int) (x2 : Int) (x3 : Int) (x4 : Int) (x5 : Int) (x6 : Int) : Bool := rootOk (IntKind.wrap IntKind.i64 (Int.tmod x0 (4294967296 : Int))) (IntKind.wrap IntKind.i64 (Int.tmod x1 (4294967296 : Int))) (IntKind.wrap IntKind.i64 (Int.tmod x2 (4294967296 : Int))) (IntKind.wrap IntKind.i64 (Int.tmod x3 (4294967296 : Int))) (IntKind.wrap IntKind.i64 (Int.tmod x4 (4294967296 : Int))) (IntKind.wrap IntKind.i64 (Int.tmod x5 (4294967296 : Int))) (IntKind.wrap IntKind.i64 (Int.tmod x6 (4294967296 : Int)))
def T_rRR (x0 : Int) (x1 : Int) (x2 : Int) (x3 : Int) (x4 : Int) (x5 : Int) (x6 : Int) (x7 : Int) : Tr (List At) :=
 .br 27 ((bif (rRR_c0 x0 x1 x2 x3 x4 x5 x6) then (0 : Int) else (1 : Int)) != (0 : Int))
 (.ok [(.i ((0 : Int))), (.i ((0 : Int))), (.i ((0 : Int))), (.i ((0 : Int))), (.i ((0 : Int))), (.i ((0 : Int))), (.i ((0 : Int))), (.b (false))])
 (.br 31 (!((bif (rRR_c0 x0 x1 x2 x3 x4 x5 x6) then IntKind.wrap IntKind.i64 (Int.tmod x0 (4294967296 : Int)) + (4294967296 : Int) else (0 : Int)) == x0 && ((bif (rRR_c0 x0 x1 x2 x3 x4 x5 x6) then IntKind.wrap IntKind.i64 (Int.tmod x1 (4294967296 : Int)) + (4294967296 : Int) else (0 : Int)) == x1 && ((bif (rRR_c0 x0 x1 x2 x3 x4 x5 x6) then IntKind.wrap IntKind.i64 (Int.tmod x2 (4294967296 : Int)) + (4294967296 : Int) else (0 : Int)) == x2 && ((bif (rRR_c0 x0 x1 x2 x3 x4 x5 x6) then IntKind.wrap IntKind.i64 (Int.tmod x3 (4294967296 : Int)) + (4294967296 : Int) else (0 : Int)) == x3 && ((bif (rRR_c0 x0 x1 x2 x3 x4 x5 x6) then IntKind.wrap IntKind.i64 (Int.tmod x4 (4294967296 : Int)) + (4294967296 : Int) else (0 : Int)) == x4 && ((bif (rRR_c0 x0 x1 x2 x3 x4 x5 x6) then IntKind.wrap IntKind.i64 (Int.tmod x5 (4294967296 : Int)) + (4294967296 : Int) else (0 : Int)) == x5 && ((bif (rRR_c0 x0 x1 x2 x3 x4 x5 x6) then IntKind.wrap IntKind.i64 (Int.tmod x6 (4294967296 : Int)) + (4294967296 : Int) else (0 : Int)) == x6 && ((bif (rRR_c0 x0 x1 x2 x3 x4 x5 x6) then rootSeal (IntKind.wrap IntKind.i64 (Int.tmod x0 (4294967296 : Int))) (IntKind.wrap IntKind.i64 (Int.tmod x1 (4294967296 : Int))) (IntKind.wrap IntKind.i64 (Int.tmod x2 (4294967296 : Int))) (IntKind.wrap IntKind.i64 (Int.tmod x3 (4294967296 : Int))) (IntKind.wrap IntKind.i64 (Int.tmod x4 (4294967296 : Int))) (IntKind.wrap IntKind.i64 (Int.tmod x5 (4294967296 : Int))) (IntKind.wrap IntKind.i64 (Int.tmod x6 (4294967296 : Int))) else (0 : Int)) == x7 && true)))))))))
 (.ok [(.i ((0 : Int))), (.i ((0 : Int))), (.i ((0 : Int))), (.i ((0 : Int))), (.i ((0 : Int))), (.i ((0 : Int))), (.i ((0 : Int))), (.b (false))])
 (.ok [(.i (IntKind.wrap IntKind.i64 (Int.tmod x0 (4294967296 : Int)))), (.i (IntKind.wrap IntKind.i64 (Int.tmod x1 (4294967296 : Int)))), (.i (IntKind.wrap IntKind.i64 (Int.tmod x2 (4294967296 : Int)))), (.i (IntKind.wrap IntKind.i64 (Int.tmod x3 (4294967296 : Int)))), (.i (IntKind.wrap IntKind.i64 (Int.tmod x4 (4294967296 : Int)))), (.i (IntKind.wrap IntKind.i64 (Int.tmod x5 (4294967296 : Int)))), (.i (IntKind.wrap IntKind.i64 (Int.tmod x6 (4294967296 : Int)))), (.b (true))]))
def y_rRR : Nat → Option Nat := (syOf3 [27, 31] [] [])
def TL_rRR (l : List At) : Tr (List At) := T_rRR (aI l 0) (aI l 1) (aI l 2) (aI l 3) (aI l 4) (aI l 5) (aI l 6) (aI l 7)
theorem e_rRR (l : List At) : (call Try.prog Γ_gRR y_rRR noLoops 100 Try.f18 (mkV ish_rRR l) (mkH ish_rRR l)).bind (leafO 0 osh_rRR) = TL_rRR l := by kernel_rfl
def F_rRR : List At → Tr (List At) := TL_rRR
theorem s_rRR : SpecF Try.prog 18 (.pure (locP ish_rRR osh_rRR F_rRR)) :=
  spec_locP (sy := y_rRR) (fuel := 100) (Lp := noLoops) o_gRR mixed ⟨Try.func18, by kernel_rfl, by kernel_rfl⟩ ish_rRR osh_rRR rfl (noLoops_ok _) (hT_ways e_rRR)
def Γ_rRR : Specs := upd Γ_gRR 18 (.pure (locP ish_rRR osh_rRR F_rRR))
theorem o_rRR : SpecOK Try.prog Γ_rRR := SpecOK.upd o_gRR s_rRR

end Go.Proofs.Ytobikddlkoibjaa.G
end

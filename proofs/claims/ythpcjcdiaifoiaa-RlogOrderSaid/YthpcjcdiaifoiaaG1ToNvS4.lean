/-
  What functions of the seat compute, printed by a program from the explorer.
-/
import Derived.Test.YthpcjcdiaifoiaaCrc1ToCrc2
import Derived.KernelRfl
import Derived.Test.YthpcjcdiaifoiaaAn8ToAnR
section
namespace Go.Proofs.Ythpcjcdiaifoiaa.G
open Go Go.AM Go.Proofs
/-! ### lLine -/

def ish_lLine : FSh := ⟨[.v true [.k (.n .i64), .k (.n .i64), .k (.n .i64), .k (.n .u64)]], []⟩
def osh_lLine : FSh := ⟨[.tup [(true, [.k (.n .u64), .k (.n .u64), .k (.n .u64), .k (.n .u64), .k (.n .u64), .k (.n .u64), .k (.n .u64), .k (.n .u64)]), (false, [.k (.n .i64)])]], []⟩
def T_lLine (x0 : Int) (x1 : Int) (x2 : Int) (x3 : Int) : Tr (List At) :=
 .br 7 (Decidable.decide (x0 < (1 : Int)))
 (.ok [(.i ((0 : Int))), (.i ((0 : Int))), (.i ((0 : Int))), (.i ((0 : Int))), (.i ((0 : Int))), (.i ((0 : Int))), (.i ((0 : Int))), (.i ((0 : Int))), (.i ((1 : Int)))])
 (.br 12 (Decidable.decide (x0 > (1099511627776 : Int)))
 (.ok [(.i ((0 : Int))), (.i ((0 : Int))), (.i ((0 : Int))), (.i ((0 : Int))), (.i ((0 : Int))), (.i ((0 : Int))), (.i ((0 : Int))), (.i ((0 : Int))), (.i ((1 : Int)))])
 (.br 17 (Decidable.decide (x1 < (0 : Int)))
 (.ok [(.i ((0 : Int))), (.i ((0 : Int))), (.i ((0 : Int))), (.i ((0 : Int))), (.i ((0 : Int))), (.i ((0 : Int))), (.i ((0 : Int))), (.i ((0 : Int))), (.i ((1 : Int)))])
 (.br 22 (Decidable.decide (x1 ≥ (49 : Int)))
 (.ok [(.i ((0 : Int))), (.i ((0 : Int))), (.i ((0 : Int))), (.i ((0 : Int))), (.i ((0 : Int))), (.i ((0 : Int))), (.i ((0 : Int))), (.i ((0 : Int))), (.i ((1 : Int)))])
 (.br 27 (Decidable.decide (x2 < (0 : Int)))
 (.ok [(.i ((0 : Int))), (.i ((0 : Int))), (.i ((0 : Int))), (.i ((0 : Int))), (.i ((0 : Int))), (.i ((0 : Int))), (.i ((0 : Int))), (.i ((0 : Int))), (.i ((1 : Int)))])
 (.br 31 (Decidable.decide (x2 ≥ (8 : Int)))
 (.ok [(.i ((0 : Int))), (.i ((0 : Int))), (.i ((0 : Int))), (.i ((0 : Int))), (.i ((0 : Int))), (.i ((0 : Int))), (.i ((0 : Int))), (.i ((0 : Int))), (.i ((1 : Int)))])
 (.br 0 (Go.Proofs.Ythpcjcdiaifoiaa.G.ok_crcSeal (274726912 : Int) (Go.IntKind.wrap Go.IntKind.u64 x0) (Go.IntKind.wrap Go.IntKind.u64 x1) (Go.IntKind.wrap Go.IntKind.u64 x2) x3 (0 : Int) (0 : Int) (0 : Int))
 (.ok [(.i (Go.Proofs.Ythpcjcdiaifoiaa.G.r_crcSeal_0 (274726912 : Int) (Go.IntKind.wrap Go.IntKind.u64 x0) (Go.IntKind.wrap Go.IntKind.u64 x1) (Go.IntKind.wrap Go.IntKind.u64 x2) x3 (0 : Int) (0 : Int))), (.i (Go.Proofs.Ythpcjcdiaifoiaa.G.r_crcSeal_1 (274726912 : Int) (Go.IntKind.wrap Go.IntKind.u64 x0) (Go.IntKind.wrap Go.IntKind.u64 x1) (Go.IntKind.wrap Go.IntKind.u64 x2) x3 (0 : Int) (0 : Int))), (.i (Go.Proofs.Ythpcjcdiaifoiaa.G.r_crcSeal_2 (274726912 : Int) (Go.IntKind.wrap Go.IntKind.u64 x0) (Go.IntKind.wrap Go.IntKind.u64 x1) (Go.IntKind.wrap Go.IntKind.u64 x2) x3 (0 : Int) (0 : Int))), (.i (Go.Proofs.Ythpcjcdiaifoiaa.G.r_crcSeal_3 (274726912 : Int) (Go.IntKind.wrap Go.IntKind.u64 x0) (Go.IntKind.wrap Go.IntKind.u64 x1) (Go.IntKind.wrap Go.IntKind.u64 x2) x3 (0 : Int) (0 : Int))), (.i (Go.Proofs.Ythpcjcdiaifoiaa.G.r_crcSeal_4 (274726912 : Int) (Go.IntKind.wrap Go.IntKind.u64 x0) (Go.IntKind.wrap Go.IntKind.u64 x1) (Go.IntKind.wrap Go.IntKind.u64 x2) x3 (0 : Int) (0 : Int))), (.i (Go.Proofs.Ythpcjcdiaifoiaa.G.r_crcSeal_5 (274726912 : Int) (Go.IntKind.wrap Go.IntKind.u64 x0) (Go.IntKind.wrap Go.IntKind.u64 x1) (Go.IntKind.wrap Go.IntKind.u64 x2) x3 (0 : Int) (0 : Int))), (.i (Go.Proofs.Ythpcjcdiaifoiaa.G.r_crcSeal_6 (274726912 : Int) (Go.IntKind.wrap Go.IntKind.u64 x0) (Go.IntKind.wrap Go.IntKind.u64 x1) (Go.IntKind.wrap Go.IntKind.u64 x2) x3 (0 : Int) (0 : Int))), (.i (Go.Proofs.Ythpcjcdiaifoiaa.G.r_crcSeal_7 (274726912 : Int) (Go.IntKind.wrap Go.IntKind.u64 x0) (Go.IntKind.wrap Go.IntKind.u64 x1) (Go.IntKind.wrap Go.IntKind.u64 x2) x3 (0 : Int) (0 : Int))), (.i ((0 : Int)))])
 (.no)))))))
def y_lLine : Nat → Option Nat := (syOf3 [7, 12, 17, 22, 27, 31] [] [])
def TL_lLine (l : List At) : Tr (List At) := T_lLine (aI l 0) (aI l 1) (aI l 2) (aI l 3)
theorem e_lLine (l : List At) : (call Try.prog Γ_crcGood y_lLine noLoops 100 Try.f12 (mkV ish_lLine l) (mkH ish_lLine l)).bind (leafO 0 osh_lLine) = TL_lLine l := by kernel_rfl
def r_lLine_0 (x0 : Int) (x1 : Int) (x2 : Int) (x3 : Int) : Int :=
  bif Decidable.decide (x0 < (1 : Int)) then ((0 : Int))
  else bif Decidable.decide (x0 > (1099511627776 : Int)) then ((0 : Int))
  else bif Decidable.decide (x1 < (0 : Int)) then ((0 : Int))
  else bif Decidable.decide (x1 ≥ (49 : Int)) then ((0 : Int))
  else bif Decidable.decide (x2 < (0 : Int)) then ((0 : Int))
  else bif Decidable.decide (x2 ≥ (8 : Int)) then ((0 : Int))
  else bif Go.Proofs.Ythpcjcdiaifoiaa.G.ok_crcSeal (274726912 : Int) (Go.IntKind.wrap Go.IntKind.u64 x0) (Go.IntKind.wrap Go.IntKind.u64 x1) (Go.IntKind.wrap Go.IntKind.u64 x2) x3 (0 : Int) (0 : Int) (0 : Int) then (Go.Proofs.Ythpcjcdiaifoiaa.G.r_crcSeal_0 (274726912 : Int) (Go.IntKind.wrap Go.IntKind.u64 x0) (Go.IntKind.wrap Go.IntKind.u64 x1) (Go.IntKind.wrap Go.IntKind.u64 x2) x3 (0 : Int) (0 : Int))
  else 0
def r_lLine_1 (x0 : Int) (x1 : Int) (x2 : Int) (x3 : Int) : Int :=
  bif Decidable.decide (x0 < (1 : Int)) then ((0 : Int))
  else bif Decidable.decide (x0 > (1099511627776 : Int)) then ((0 : Int))
  else bif Decidable.decide (x1 < (0 : Int)) then ((0 : Int))
  else bif Decidable.decide (x1 ≥ (49 : Int)) then ((0 : Int))
  else bif Decidable.decide (x2 < (0 : Int)) then ((0 : Int))
  else bif Decidable.decide (x2 ≥ (8 : Int)) then ((0 : Int))
  else bif Go.Proofs.Ythpcjcdiaifoiaa.G.ok_crcSeal (274726912 : Int) (Go.IntKind.wrap Go.IntKind.u64 x0) (Go.IntKind.wrap Go.IntKind.u64 x1) (Go.IntKind.wrap Go.IntKind.u64 x2) x3 (0 : Int) (0 : Int) (0 : Int) then (Go.Proofs.Ythpcjcdiaifoiaa.G.r_crcSeal_1 (274726912 : Int) (Go.IntKind.wrap Go.IntKind.u64 x0) (Go.IntKind.wrap Go.IntKind.u64 x1) (Go.IntKind.wrap Go.IntKind.u64 x2) x3 (0 : Int) (0 : Int))
  else 0
def r_lLine_2 (x0 : Int) (x1 : Int) (x2 : Int) (x3 : Int) : Int :=
  bif Decidable.decide (x0 < (1 : Int)) then ((0 : Int))
  else bif Decidable.decide (x0 > (1099511627776 : Int)) then ((0 : Int))
  else bif Decidable.decide (x1 < (0 : Int)) then ((0 : Int))
  else bif Decidable.decide (x1 ≥ (49 : Int)) then ((0 : Int))
  else bif Decidable.decide (x2 < (0 : Int)) then ((0 : Int))
  else bif Decidable.decide (x2 ≥ (8 : Int)) then ((0 : Int))
  else bif Go.Proofs.Ythpcjcdiaifoiaa.G.ok_crcSeal (274726912 : Int) (Go.IntKind.wrap Go.IntKind.u64 x0) (Go.IntKind.wrap Go.IntKind.u64 x1) (Go.IntKind.wrap Go.IntKind.u64 x2) x3 (0 : Int) (0 : Int) (0 : Int) then (Go.Proofs.Ythpcjcdiaifoiaa.G.r_crcSeal_2 (274726912 : Int) (Go.IntKind.wrap Go.IntKind.u64 x0) (Go.IntKind.wrap Go.IntKind.u64 x1) (Go.IntKind.wrap Go.IntKind.u64 x2) x3 (0 : Int) (0 : Int))
  else 0
def r_lLine_3 (x0 : Int) (x1 : Int) (x2 : Int) (x3 : Int) : Int :=
  bif Decidable.decide (x0 < (1 : Int)) then ((0 : Int))
  else bif Decidable.decide (x0 > (1099511627776 : Int)) then ((0 : Int))
  else bif Decidable.decide (x1 < (0 : Int)) then ((0 : Int))
  else bif Decidable.decide (x1 ≥ (49 : Int)) then ((0 : Int))
  else bif Decidable.decide (x2 < (0 : Int)) then ((0 : Int))
  else bif Decidable.decide (x2 ≥ (8 : Int)) then ((0 : Int))
  else bif Go.Proofs.Ythpcjcdiaifoiaa.G.ok_crcSeal (274726912 : Int) (Go.IntKind.wrap Go.IntKind.u64 x0) (Go.IntKind.wrap Go.IntKind.u64 x1) (Go.IntKind.wrap Go.IntKind.u64 x2) x3 (0 : Int) (0 : Int) (0 : Int) then (Go.Proofs.Ythpcjcdiaifoiaa.G.r_crcSeal_3 (274726912 : Int) (Go.IntKind.wrap Go.IntKind.u64 x0) (Go.IntKind.wrap Go.IntKind.u64 x1) (Go.IntKind.wrap Go.IntKind.u64 x2) x3 (0 : Int) (0 : Int))
  else 0
def r_lLine_4 (x0 : Int) (x1 : Int) (x2 : Int) (x3 : Int) : Int :=
  bif Decidable.decide (x0 < (1 : Int)) then ((0 : Int))
  else bif Decidable.decide (x0 > (1099511627776 : Int)) then ((0 : Int))
  else bif Decidable.decide (x1 < (0 : Int)) then ((0 : Int))
  else bif Decidable.decide (x1 ≥ (49 : Int)) then ((0 : Int))
  else bif Decidable.decide (x2 < (0 : Int)) then ((0 : Int))
  else bif Decidable.decide (x2 ≥ (8 : Int)) then ((0 : Int))
  else bif Go.Proofs.Ythpcjcdiaifoiaa.G.ok_crcSeal (274726912 : Int) (Go.IntKind.wrap Go.IntKind.u64 x0) (Go.IntKind.wrap Go.IntKind.u64 x1) (Go.IntKind.wrap Go.IntKind.u64 x2) x3 (0 : Int) (0 : Int) (0 : Int) then (Go.Proofs.Ythpcjcdiaifoiaa.G.r_crcSeal_4 (274726912 : Int) (Go.IntKind.wrap Go.IntKind.u64 x0) (Go.IntKind.wrap Go.IntKind.u64 x1) (Go.IntKind.wrap Go.IntKind.u64 x2) x3 (0 : Int) (0 : Int))
  else 0
def r_lLine_5 (x0 : Int) (x1 : Int) (x2 : Int) (x3 : Int) : Int :=
  bif Decidable.decide (x0 < (1 : Int)) then ((0 : Int))
  else bif Decidable.decide (x0 > (1099511627776 : Int)) then ((0 : Int))
  else bif Decidable.decide (x1 < (0 : Int)) then ((0 : Int))
  else bif Decidable.decide (x1 ≥ (49 : Int)) then ((0 : Int))
  else bif Decidable.decide (x2 < (0 : Int)) then ((0 : Int))
  else bif Decidable.decide (x2 ≥ (8 : Int)) then ((0 : Int))
  else bif Go.Proofs.Ythpcjcdiaifoiaa.G.ok_crcSeal (274726912 : Int) (Go.IntKind.wrap Go.IntKind.u64 x0) (Go.IntKind.wrap Go.IntKind.u64 x1) (Go.IntKind.wrap Go.IntKind.u64 x2) x3 (0 : Int) (0 : Int) (0 : Int) then (Go.Proofs.Ythpcjcdiaifoiaa.G.r_crcSeal_5 (274726912 : Int) (Go.IntKind.wrap Go.IntKind.u64 x0) (Go.IntKind.wrap Go.IntKind.u64 x1) (Go.IntKind.wrap Go.IntKind.u64 x2) x3 (0 : Int) (0 : Int))
  else 0
def r_lLine_6 (x0 : Int) (x1 : Int) (x2 : Int) (x3 : Int) : Int :=
  bif Decidable.decide (x0 < (1 : Int)) then ((0 : Int))
  else bif Decidable.decide (x0 > (1099511627776 : Int)) then ((0 : Int))
  else bif Decidable.decide (x1 < (0 : Int)) then ((0 : Int))
  else bif Decidable.decide (x1 ≥ (49 : Int)) then ((0 : Int))
  else bif Decidable.decide (x2 < (0 : Int)) then ((0 : Int))
  else bif Decidable.decide (x2 ≥ (8 : Int)) then ((0 : Int))
  else bif Go.Proofs.Ythpcjcdiaifoiaa.G.ok_crcSeal (274726912 : Int) (Go.IntKind.wrap Go.IntKind.u64 x0) (Go.IntKind.wrap Go.IntKind.u64 x1) (Go.IntKind.wrap Go.IntKind.u64 x2) x3 (0 : Int) (0 : Int) (0 : Int) then (Go.Proofs.Ythpcjcdiaifoiaa.G.r_crcSeal_6 (274726912 : Int) (Go.IntKind.wrap Go.IntKind.u64 x0) (Go.IntKind.wrap Go.IntKind.u64 x1) (Go.IntKind.wrap Go.IntKind.u64 x2) x3 (0 : Int) (0 : Int))
  else 0
def r_lLine_7 (x0 : Int) (x1 : Int) (x2 : Int) (x3 : Int) : Int :=
  bif Decidable.decide (x0 < (1 : Int)) then ((0 : Int))
  else bif Decidable.decide (x0 > (1099511627776 : Int)) then ((0 : Int))
  else bif Decidable.decide (x1 < (0 : Int)) then ((0 : Int))
  else bif Decidable.decide (x1 ≥ (49 : Int)) then ((0 : Int))
  else bif Decidable.decide (x2 < (0 : Int)) then ((0 : Int))
  else bif Decidable.decide (x2 ≥ (8 : Int)) then ((0 : Int))
  else bif Go.Proofs.Ythpcjcdiaifoiaa.G.ok_crcSeal (274726912 : Int) (Go.IntKind.wrap Go.IntKind.u64 x0) (Go.IntKind.wrap Go.IntKind.u64 x1) (Go.IntKind.wrap Go.IntKind.u64 x2) x3 (0 : Int) (0 : Int) (0 : Int) then (Go.Proofs.Ythpcjcdiaifoiaa.G.r_crcSeal_7 (274726912 : Int) (Go.IntKind.wrap Go.IntKind.u64 x0) (Go.IntKind.wrap Go.IntKind.u64 x1) (Go.IntKind.wrap Go.IntKind.u64 x2) x3 (0 : Int) (0 : Int))
  else 0
def r_lLine_8 (x0 : Int) (x1 : Int) (x2 : Int) (x3 : Int) : Int :=
  bif Decidable.decide (x0 < (1 : Int)) then ((1 : Int))
  else bif Decidable.decide (x0 > (1099511627776 : Int)) then ((1 : Int))
  else bif Decidable.decide (x1 < (0 : Int)) then ((1 : Int))
  else bif Decidable.decide (x1 ≥ (49 : Int)) then ((1 : Int))
  else bif Decidable.decide (x2 < (0 : Int)) then ((1 : Int))
  else bif Decidable.decide (x2 ≥ (8 : Int)) then ((1 : Int))
  else bif Go.Proofs.Ythpcjcdiaifoiaa.G.ok_crcSeal (274726912 : Int) (Go.IntKind.wrap Go.IntKind.u64 x0) (Go.IntKind.wrap Go.IntKind.u64 x1) (Go.IntKind.wrap Go.IntKind.u64 x2) x3 (0 : Int) (0 : Int) (0 : Int) then ((0 : Int))
  else 0
def ok_lLine (x0 : Int) (x1 : Int) (x2 : Int) (x3 : Int) : Bool :=
  bif Decidable.decide (x0 < (1 : Int)) then (true)
  else bif Decidable.decide (x0 > (1099511627776 : Int)) then (true)
  else bif Decidable.decide (x1 < (0 : Int)) then (true)
  else bif Decidable.decide (x1 ≥ (49 : Int)) then (true)
  else bif Decidable.decide (x2 < (0 : Int)) then (true)
  else bif Decidable.decide (x2 ≥ (8 : Int)) then (true)
  else bif Go.Proofs.Ythpcjcdiaifoiaa.G.ok_crcSeal (274726912 : Int) (Go.IntKind.wrap Go.IntKind.u64 x0) (Go.IntKind.wrap Go.IntKind.u64 x1) (Go.IntKind.wrap Go.IntKind.u64 x2) x3 (0 : Int) (0 : Int) (0 : Int) then (true)
  else false
def F_lLine : List At → Tr (List At) := fun l => .br 0 (ok_lLine (aI l 0) (aI l 1) (aI l 2) (aI l 3)) (.ok [.i (r_lLine_0 (aI l 0) (aI l 1) (aI l 2) (aI l 3)), .i (r_lLine_1 (aI l 0) (aI l 1) (aI l 2) (aI l 3)), .i (r_lLine_2 (aI l 0) (aI l 1) (aI l 2) (aI l 3)), .i (r_lLine_3 (aI l 0) (aI l 1) (aI l 2) (aI l 3)), .i (r_lLine_4 (aI l 0) (aI l 1) (aI l 2) (aI l 3)), .i (r_lLine_5 (aI l 0) (aI l 1) (aI l 2) (aI l 3)), .i (r_lLine_6 (aI l 0) (aI l 1) (aI l 2) (aI l 3)), .i (r_lLine_7 (aI l 0) (aI l 1) (aI l 2) (aI l 3)), .i (r_lLine_8 (aI l 0) (aI l 1) (aI l 2) (aI l 3))]) .no
theorem s_lLine : SpecF Try.prog 12 (.pure (locP ish_lLine osh_lLine F_lLine)) :=
  spec_locP (sy := y_lLine) (fuel := 100) (Lp := noLoops) o_crcGood mixed ⟨Try.func12, by kernel_rfl, by kernel_rfl⟩ ish_lLine osh_lLine rfl (noLoops_ok _) (hT_merged [.i, .i, .i, .i, .i, .i, .i, .i, .i] e_lLine (fun l => by kernel_rfl) (fun l => by kernel_rfl))
def Γ_lLine : Specs := upd Γ_crcGood 12 (.pure (locP ish_lLine osh_lLine F_lLine))
theorem o_lLine : SpecOK Try.prog Γ_lLine := SpecOK.upd o_crcGood s_lLine

/-! ### rLine -/

def ish_rLine : FSh := ⟨[.v true [.k (.n .i64), .k (.n .i64), .k (.n .i64), .k (.n .u64)]], []⟩
def osh_rLine : FSh := ⟨[.tup [(true, [.k (.n .u64), .k (.n .u64), .k (.n .u64), .k (.n .u64), .k (.n .u64), .k (.n .u64), .k (.n .u64), .k (.n .u64)]), (false, [.k (.n .i64)])]], []⟩
def T_rLine (x0 : Int) (x1 : Int) (x2 : Int) (x3 : Int) : Tr (List At) :=
 .br 7 (Decidable.decide (x0 < (1 : Int)))
 (.ok [(.i ((0 : Int))), (.i ((0 : Int))), (.i ((0 : Int))), (.i ((0 : Int))), (.i ((0 : Int))), (.i ((0 : Int))), (.i ((0 : Int))), (.i ((0 : Int))), (.i ((1 : Int)))])
 (.br 12 (Decidable.decide (x0 > (1099511627776 : Int)))
 (.ok [(.i ((0 : Int))), (.i ((0 : Int))), (.i ((0 : Int))), (.i ((0 : Int))), (.i ((0 : Int))), (.i ((0 : Int))), (.i ((0 : Int))), (.i ((0 : Int))), (.i ((1 : Int)))])
 (.br 17 (Decidable.decide (x1 < (0 : Int)))
 (.ok [(.i ((0 : Int))), (.i ((0 : Int))), (.i ((0 : Int))), (.i ((0 : Int))), (.i ((0 : Int))), (.i ((0 : Int))), (.i ((0 : Int))), (.i ((0 : Int))), (.i ((1 : Int)))])
 (.br 22 (Decidable.decide (x1 ≥ (49 : Int)))
 (.ok [(.i ((0 : Int))), (.i ((0 : Int))), (.i ((0 : Int))), (.i ((0 : Int))), (.i ((0 : Int))), (.i ((0 : Int))), (.i ((0 : Int))), (.i ((0 : Int))), (.i ((1 : Int)))])
 (.br 27 (Decidable.decide (x2 < (0 : Int)))
 (.ok [(.i ((0 : Int))), (.i ((0 : Int))), (.i ((0 : Int))), (.i ((0 : Int))), (.i ((0 : Int))), (.i ((0 : Int))), (.i ((0 : Int))), (.i ((0 : Int))), (.i ((1 : Int)))])
 (.br 31 (Decidable.decide (x2 > (7 : Int)))
 (.ok [(.i ((0 : Int))), (.i ((0 : Int))), (.i ((0 : Int))), (.i ((0 : Int))), (.i ((0 : Int))), (.i ((0 : Int))), (.i ((0 : Int))), (.i ((0 : Int))), (.i ((1 : Int)))])
 (.br 0 (Go.Proofs.Ythpcjcdiaifoiaa.G.ok_refSeal (274726912 : Int) (Go.IntKind.wrap Go.IntKind.u64 x0) (Go.IntKind.wrap Go.IntKind.u64 x1) (Go.IntKind.wrap Go.IntKind.u64 x2) x3 (0 : Int) (0 : Int) (0 : Int))
 (.ok [(.i (Go.Proofs.Ythpcjcdiaifoiaa.G.r_refSeal_0 (274726912 : Int) (Go.IntKind.wrap Go.IntKind.u64 x0) (Go.IntKind.wrap Go.IntKind.u64 x1) (Go.IntKind.wrap Go.IntKind.u64 x2) x3 (0 : Int) (0 : Int))), (.i (Go.Proofs.Ythpcjcdiaifoiaa.G.r_refSeal_1 (274726912 : Int) (Go.IntKind.wrap Go.IntKind.u64 x0) (Go.IntKind.wrap Go.IntKind.u64 x1) (Go.IntKind.wrap Go.IntKind.u64 x2) x3 (0 : Int) (0 : Int))), (.i (Go.Proofs.Ythpcjcdiaifoiaa.G.r_refSeal_2 (274726912 : Int) (Go.IntKind.wrap Go.IntKind.u64 x0) (Go.IntKind.wrap Go.IntKind.u64 x1) (Go.IntKind.wrap Go.IntKind.u64 x2) x3 (0 : Int) (0 : Int))), (.i (Go.Proofs.Ythpcjcdiaifoiaa.G.r_refSeal_3 (274726912 : Int) (Go.IntKind.wrap Go.IntKind.u64 x0) (Go.IntKind.wrap Go.IntKind.u64 x1) (Go.IntKind.wrap Go.IntKind.u64 x2) x3 (0 : Int) (0 : Int))), (.i (Go.Proofs.Ythpcjcdiaifoiaa.G.r_refSeal_4 (274726912 : Int) (Go.IntKind.wrap Go.IntKind.u64 x0) (Go.IntKind.wrap Go.IntKind.u64 x1) (Go.IntKind.wrap Go.IntKind.u64 x2) x3 (0 : Int) (0 : Int))), (.i (Go.Proofs.Ythpcjcdiaifoiaa.G.r_refSeal_5 (274726912 : Int) (Go.IntKind.wrap Go.IntKind.u64 x0) (Go.IntKind.wrap Go.IntKind.u64 x1) (Go.IntKind.wrap Go.IntKind.u64 x2) x3 (0 : Int) (0 : Int))), (.i (Go.Proofs.Ythpcjcdiaifoiaa.G.r_refSeal_6 (274726912 : Int) (Go.IntKind.wrap Go.IntKind.u64 x0) (Go.IntKind.wrap Go.IntKind.u64 x1) (Go.IntKind.wrap Go.IntKind.u64 x2) x3 (0 : Int) (0 : Int))), (.i (Go.Proofs.Ythpcjcdiaifoiaa.G.r_refSeal_7 (274726912 : Int) (Go.IntKind.wrap Go.IntKind.u64 x0) (Go.IntKind.wrap Go.IntKind.u64 x1) (Go.IntKind.wrap Go.IntKind.u64 x2) x3 (0 : Int) (0 : Int))), (.i ((0 : Int)))])
 (.no)))))))
def y_rLine : Nat → Option Nat := (syOf3 [7, 12, 17, 22, 27, 31] [] [])
def TL_rLine (l : List At) : Tr (List At) := T_rLine (aI l 0) (aI l 1) (aI l 2) (aI l 3)
theorem e_rLine (l : List At) : (call Try.prog Γ_lLine y_rLine noLoops 100 Try.f13 (mkV ish_rLine l) (mkH ish_rLine l)).bind (leafO 0 osh_rLine) = TL_rLine l := by kernel_rfl
def r_rLine_0 (x0 : Int) (x1 : Int) (x2 : Int) (x3 : Int) : Int :=
  bif Decidable.decide (x0 < (1 : Int)) then ((0 : Int))
  else bif Decidable.decide (x0 > (1099511627776 : Int)) then ((0 : Int))
  else bif Decidable.decide (x1 < (0 : Int)) then ((0 : Int))
  else bif Decidable.decide (x1 ≥ (49 : Int)) then ((0 : Int))
  else bif Decidable.decide (x2 < (0 : Int)) then ((0 : Int))
  else bif Decidable.decide (x2 > (7 : Int)) then ((0 : Int))
  else bif Go.Proofs.Ythpcjcdiaifoiaa.G.ok_refSeal (274726912 : Int) (Go.IntKind.wrap Go.IntKind.u64 x0) (Go.IntKind.wrap Go.IntKind.u64 x1) (Go.IntKind.wrap Go.IntKind.u64 x2) x3 (0 : Int) (0 : Int) (0 : Int) then (Go.Proofs.Ythpcjcdiaifoiaa.G.r_refSeal_0 (274726912 : Int) (Go.IntKind.wrap Go.IntKind.u64 x0) (Go.IntKind.wrap Go.IntKind.u64 x1) (Go.IntKind.wrap Go.IntKind.u64 x2) x3 (0 : Int) (0 : Int))
  else 0
def r_rLine_1 (x0 : Int) (x1 : Int) (x2 : Int) (x3 : Int) : Int :=
  bif Decidable.decide (x0 < (1 : Int)) then ((0 : Int))
  else bif Decidable.decide (x0 > (1099511627776 : Int)) then ((0 : Int))
  else bif Decidable.decide (x1 < (0 : Int)) then ((0 : Int))
  else bif Decidable.decide (x1 ≥ (49 : Int)) then ((0 : Int))
  else bif Decidable.decide (x2 < (0 : Int)) then ((0 : Int))
  else bif Decidable.decide (x2 > (7 : Int)) then ((0 : Int))
  else bif Go.Proofs.Ythpcjcdiaifoiaa.G.ok_refSeal (274726912 : Int) (Go.IntKind.wrap Go.IntKind.u64 x0) (Go.IntKind.wrap Go.IntKind.u64 x1) (Go.IntKind.wrap Go.IntKind.u64 x2) x3 (0 : Int) (0 : Int) (0 : Int) then (Go.Proofs.Ythpcjcdiaifoiaa.G.r_refSeal_1 (274726912 : Int) (Go.IntKind.wrap Go.IntKind.u64 x0) (Go.IntKind.wrap Go.IntKind.u64 x1) (Go.IntKind.wrap Go.IntKind.u64 x2) x3 (0 : Int) (0 : Int))
  else 0
def r_rLine_2 (x0 : Int) (x1 : Int) (x2 : Int) (x3 : Int) : Int :=
  bif Decidable.decide (x0 < (1 : Int)) then ((0 : Int))
  else bif Decidable.decide (x0 > (1099511627776 : Int)) then ((0 : Int))
  else bif Decidable.decide (x1 < (0 : Int)) then ((0 : Int))
  else bif Decidable.decide (x1 ≥ (49 : Int)) then ((0 : Int))
  else bif Decidable.decide (x2 < (0 : Int)) then ((0 : Int))
  else bif Decidable.decide (x2 > (7 : Int)) then ((0 : Int))
  else bif Go.Proofs.Ythpcjcdiaifoiaa.G.ok_refSeal (274726912 : Int) (Go.IntKind.wrap Go.IntKind.u64 x0) (Go.IntKind.wrap Go.IntKind.u64 x1) (Go.IntKind.wrap Go.IntKind.u64 x2) x3 (0 : Int) (0 : Int) (0 : Int) then (Go.Proofs.Ythpcjcdiaifoiaa.G.r_refSeal_2 (274726912 : Int) (Go.IntKind.wrap Go.IntKind.u64 x0) (Go.IntKind.wrap Go.IntKind.u64 x1) (Go.IntKind.wrap Go.IntKind.u64 x2) x3 (0 : Int) (0 : Int))
  else 0
def r_rLine_3 (x0 : Int) (x1 : Int) (x2 : Int) (x3 : Int) : Int :=
  bif Decidable.decide (x0 < (1 : Int)) then ((0 : Int))
  else bif Decidable.decide (x0 > (1099511627776 : Int)) then ((0 : Int))
  else bif Decidable.decide (x1 < (0 : Int)) then ((0 : Int))
  else bif Decidable.decide (x1 ≥ (49 : Int)) then ((0 : Int))
  else bif Decidable.decide (x2 < (0 : Int)) then ((0 : Int))
  else bif Decidable.decide (x2 > (7 : Int)) then ((0 : Int))
  else bif Go.Proofs.Ythpcjcdiaifoiaa.G.ok_refSeal (274726912 : Int) (Go.IntKind.wrap Go.IntKind.u64 x0) (Go.IntKind.wrap Go.IntKind.u64 x1) (Go.IntKind.wrap Go.IntKind.u64 x2) x3 (0 : Int) (0 : Int) (0 : Int) then (Go.Proofs.Ythpcjcdiaifoiaa.G.r_refSeal_3 (274726912 : Int) (Go.IntKind.wrap Go.IntKind.u64 x0) (Go.IntKind.wrap Go.IntKind.u64 x1) (Go.IntKind.wrap Go.IntKind.u64 x2) x3 (0 : Int) (0 : Int))
  else 0
def r_rLine_4 (x0 : Int) (x1 : Int) (x2 : Int) (x3 : Int) : Int :=
  bif Decidable.decide (x0 < (1 : Int)) then ((0 : Int))
  else bif Decidable.decide (x0 > (1099511627776 : Int)) then ((0 : Int))
  else bif Decidable.decide (x1 < (0 : Int)) then ((0 : Int))
  else bif Decidable.decide (x1 ≥ (49 : Int)) then ((0 : Int))
  else bif Decidable.decide (x2 < (0 : Int)) then ((0 : Int))
  else bif Decidable.decide (x2 > (7 : Int)) then ((0 : Int))
  else bif Go.Proofs.Ythpcjcdiaifoiaa.G.ok_refSeal (274726912 : Int) (Go.IntKind.wrap Go.IntKind.u64 x0) (Go.IntKind.wrap Go.IntKind.u64 x1) (Go.IntKind.wrap Go.IntKind.u64 x2) x3 (0 : Int) (0 : Int) (0 : Int) then (Go.Proofs.Ythpcjcdiaifoiaa.G.r_refSeal_4 (274726912 : Int) (Go.IntKind.wrap Go.IntKind.u64 x0) (Go.IntKind.wrap Go.IntKind.u64 x1) (Go.IntKind.wrap Go.IntKind.u64 x2) x3 (0 : Int) (0 : Int))
  else 0
def r_rLine_5 (x0 : Int) (x1 : Int) (x2 : Int) (x3 : Int) : Int :=
  bif Decidable.decide (x0 < (1 : Int)) then ((0 : Int))
  else bif Decidable.decide (x0 > (1099511627776 : Int)) then ((0 : Int))
  else bif Decidable.decide (x1 < (0 : Int)) then ((0 : Int))
  else bif Decidable.decide (x1 ≥ (49 : Int)) then ((0 : Int))
  else bif Decidable.decide (x2 < (0 : Int)) then ((0 : Int))
  else bif Decidable.decide (x2 > (7 : Int)) then ((0 : Int))
  else bif Go.Proofs.Ythpcjcdiaifoiaa.G.ok_refSeal (274726912 : Int) (Go.IntKind.wrap Go.IntKind.u64 x0) (Go.IntKind.wrap Go.IntKind.u64 x1) (Go.IntKind.wrap Go.IntKind.u64 x2) x3 (0 : Int) (0 : Int) (0 : Int) then (Go.Proofs.Ythpcjcdiaifoiaa.G.r_refSeal_5 (274726912 : Int) (Go.IntKind.wrap Go.IntKind.u64 x0) (Go.IntKind.wrap Go.IntKind.u64 x1) (Go.IntKind.wrap Go.IntKind.u64 x2) x3 (0 : Int) (0 : Int))
  else 0
def r_rLine_6 (x0 : Int) (x1 : Int) (x2 : Int) (x3 : Int) : Int :=
  bif Decidable.decide (x0 < (1 : Int)) then ((0 : Int))
  else bif Decidable.decide (x0 > (1099511627776 : Int)) then ((0 : Int))
  else bif Decidable.decide (x1 < (0 : Int)) then ((0 : Int))
  else bif Decidable.decide (x1 ≥ (49 : Int)) then ((0 : Int))
  else bif Decidable.decide (x2 < (0 : Int)) then ((0 : Int))
  else bif Decidable.decide (x2 > (7 : Int)) then ((0 : Int))
  else bif Go.Proofs.Ythpcjcdiaifoiaa.G.ok_refSeal (274726912 : Int) (Go.IntKind.wrap Go.IntKind.u64 x0) (Go.IntKind.wrap Go.IntKind.u64 x1) (Go.IntKind.wrap Go.IntKind.u64 x2) x3 (0 : Int) (0 : Int) (0 : Int) then (Go.Proofs.Ythpcjcdiaifoiaa.G.r_refSeal_6 (274726912 : Int) (Go.IntKind.wrap Go.IntKind.u64 x0) (Go.IntKind.wrap Go.IntKind.u64 x1) (Go.IntKind.wrap Go.IntKind.u64 x2) x3 (0 : Int) (0 : Int))
  else 0
def r_rLine_7 (x0 : Int) (x1 : Int) (x2 : Int) (x3 : Int) : Int :=
  bif Decidable.decide (x0 < (1 : Int)) then ((0 : Int))
  else bif Decidable.decide (x0 > (1099511627776 : Int)) then ((0 : Int))
  else bif Decidable.decide (x1 < (0 : Int)) then ((0 : Int))
  else bif Decidable.decide (x1 ≥ (49 : Int)) then ((0 : Int))
  else bif Decidable.decide (x2 < (0 : Int)) then ((0 : Int))
  else bif Decidable.decide (x2 > (7 : Int)) then ((0 : Int))
  else bif Go.Proofs.Ythpcjcdiaifoiaa.G.ok_refSeal (274726912 : Int) (Go.IntKind.wrap Go.IntKind.u64 x0) (Go.IntKind.wrap Go.IntKind.u64 x1) (Go.IntKind.wrap Go.IntKind.u64 x2) x3 (0 : Int) (0 : Int) (0 : Int) then (Go.Proofs.Ythpcjcdiaifoiaa.G.r_refSeal_7 (274726912 : Int) (Go.IntKind.wrap Go.IntKind.u64 x0) (Go.IntKind.wrap Go.IntKind.u64 x1) (Go.IntKind.wrap Go.IntKind.u64 x2) x3 (0 : Int) (0 : Int))
  else 0
def r_rLine_8 (x0 : Int) (x1 : Int) (x2 : Int) (x3 : Int) : Int :=
  bif Decidable.decide (x0 < (1 : Int)) then ((1 : Int))
  else bif Decidable.decide (x0 > (1099511627776 : Int)) then ((1 : Int))
  else bif Decidable.decide (x1 < (0 : Int)) then ((1 : Int))
  else bif Decidable.decide (x1 ≥ (49 : Int)) then ((1 : Int))
  else bif Decidable.decide (x2 < (0 : Int)) then ((1 : Int))
  else bif Decidable.decide (x2 > (7 : Int)) then ((1 : Int))
  else bif Go.Proofs.Ythpcjcdiaifoiaa.G.ok_refSeal (274726912 : Int) (Go.IntKind.wrap Go.IntKind.u64 x0) (Go.IntKind.wrap Go.IntKind.u64 x1) (Go.IntKind.wrap Go.IntKind.u64 x2) x3 (0 : Int) (0 : Int) (0 : Int) then ((0 : Int))
  else 0
def ok_rLine (x0 : Int) (x1 : Int) (x2 : Int) (x3 : Int) : Bool :=
  bif Decidable.decide (x0 < (1 : Int)) then (true)
  else bif Decidable.decide (x0 > (1099511627776 : Int)) then (true)
  else bif Decidable.decide (x1 < (0 : Int)) then (true)
  else bif Decidable.decide (x1 ≥ (49 : Int)) then (true)
  else bif Decidable.decide (x2 < (0 : Int)) then (true)
  else bif Decidable.decide (x2 > (7 : Int)) then (true)
  else bif Go.Proofs.Ythpcjcdiaifoiaa.G.ok_refSeal (274726912 : Int) (Go.IntKind.wrap Go.IntKind.u64 x0) (Go.IntKind.wrap Go.IntKind.u64 x1) (Go.IntKind.wrap Go.IntKind.u64 x2) x3 (0 : Int) (0 : Int) (0 : Int) then (true)
  else false
def F_rLine : List At → Tr (List At) := fun l => .br 0 (ok_rLine (aI l 0) (aI l 1) (aI l 2) (aI l 3)) (.ok [.i (r_rLine_0 (aI l 0) (aI l 1) (aI l 2) (aI l 3)), .i (r_rLine_1 (aI l 0) (aI l 1) (aI l 2) (aI l 3)), .i (r_rLine_2 (aI l 0) (aI l 1) (aI l 2) (aI l 3)), .i (r_rLine_3 (aI l 0) (aI l 1) (aI l 2) (aI l 3)), .i (r_rLine_4 (aI l 0) (aI l 1) (aI l 2) (aI l 3)), .i (r_rLine_5 (aI l 0) (aI l 1) (aI l 2) (aI l 3)), .i (r_rLine_6 (aI l 0) (aI l 1) (aI l 2) (aI l 3)), .i (r_rLine_7 (aI l 0) (aI l 1) (aI l 2) (aI l 3)), .i (r_rLine_8 (aI l 0) (aI l 1) (aI l 2) (aI l 3))]) .no
theorem s_rLine : SpecF Try.prog 13 (.pure (locP ish_rLine osh_rLine F_rLine)) :=
  spec_locP (sy := y_rLine) (fuel := 100) (Lp := noLoops) o_lLine mixed ⟨Try.func13, by kernel_rfl, by kernel_rfl⟩ ish_rLine osh_rLine rfl (noLoops_ok _) (hT_merged [.i, .i, .i, .i, .i, .i, .i, .i, .i] e_rLine (fun l => by kernel_rfl) (fun l => by kernel_rfl))
def Γ_rLine : Specs := upd Γ_lLine 13 (.pure (locP ish_rLine osh_rLine F_rLine))
theorem o_rLine : SpecOK Try.prog Γ_rLine := SpecOK.upd o_lLine s_rLine

/-! ### lRead -/

def ish_lRead : FSh := ⟨[.v true [.k (.n .u64), .k (.n .u64), .k (.n .u64), .k (.n .u64), .k (.n .u64), .k (.n .u64), .k (.n .u64), .k (.n .u64)]], []⟩
def osh_lRead : FSh := ⟨[.tup [(true, [.k (.n .i64), .k (.n .i64), .k (.n .i64), .k (.n .u64)]), (false, [.k .b])]], []⟩
def T_lRead (x0 : Int) (x1 : Int) (x2 : Int) (x3 : Int) (x4 : Int) (x5 : Int) (x6 : Int) (x7 : Int) : Tr (List At) :=
 .br 0 (Go.Proofs.Ythpcjcdiaifoiaa.G.ok_lLine (Go.IntKind.wrap Go.IntKind.i64 x1) (Go.IntKind.wrap Go.IntKind.i64 x2) (Go.IntKind.wrap Go.IntKind.i64 x3) x4)
 (.br 26 (Go.Proofs.Ythpcjcdiaifoiaa.G.r_lLine_8 (Go.IntKind.wrap Go.IntKind.i64 x1) (Go.IntKind.wrap Go.IntKind.i64 x2) (Go.IntKind.wrap Go.IntKind.i64 x3) x4 != (0 : Int))
 (.ok [(.i ((0 : Int))), (.i ((0 : Int))), (.i ((0 : Int))), (.i ((0 : Int))), (.b (Bool.false))])
 (.br 30 (!(Go.Proofs.Ythpcjcdiaifoiaa.G.r_lLine_0 (Go.IntKind.wrap Go.IntKind.i64 x1) (Go.IntKind.wrap Go.IntKind.i64 x2) (Go.IntKind.wrap Go.IntKind.i64 x3) x4 == x0 && (Go.Proofs.Ythpcjcdiaifoiaa.G.r_lLine_1 (Go.IntKind.wrap Go.IntKind.i64 x1) (Go.IntKind.wrap Go.IntKind.i64 x2) (Go.IntKind.wrap Go.IntKind.i64 x3) x4 == x1 && (Go.Proofs.Ythpcjcdiaifoiaa.G.r_lLine_2 (Go.IntKind.wrap Go.IntKind.i64 x1) (Go.IntKind.wrap Go.IntKind.i64 x2) (Go.IntKind.wrap Go.IntKind.i64 x3) x4 == x2 && (Go.Proofs.Ythpcjcdiaifoiaa.G.r_lLine_3 (Go.IntKind.wrap Go.IntKind.i64 x1) (Go.IntKind.wrap Go.IntKind.i64 x2) (Go.IntKind.wrap Go.IntKind.i64 x3) x4 == x3 && (Go.Proofs.Ythpcjcdiaifoiaa.G.r_lLine_4 (Go.IntKind.wrap Go.IntKind.i64 x1) (Go.IntKind.wrap Go.IntKind.i64 x2) (Go.IntKind.wrap Go.IntKind.i64 x3) x4 == x4 && (Go.Proofs.Ythpcjcdiaifoiaa.G.r_lLine_5 (Go.IntKind.wrap Go.IntKind.i64 x1) (Go.IntKind.wrap Go.IntKind.i64 x2) (Go.IntKind.wrap Go.IntKind.i64 x3) x4 == x5 && (Go.Proofs.Ythpcjcdiaifoiaa.G.r_lLine_6 (Go.IntKind.wrap Go.IntKind.i64 x1) (Go.IntKind.wrap Go.IntKind.i64 x2) (Go.IntKind.wrap Go.IntKind.i64 x3) x4 == x6 && (Go.Proofs.Ythpcjcdiaifoiaa.G.r_lLine_7 (Go.IntKind.wrap Go.IntKind.i64 x1) (Go.IntKind.wrap Go.IntKind.i64 x2) (Go.IntKind.wrap Go.IntKind.i64 x3) x4 == x7 && Bool.true)))))))))
 (.ok [(.i ((0 : Int))), (.i ((0 : Int))), (.i ((0 : Int))), (.i ((0 : Int))), (.b (Bool.false))])
 (.ok [(.i (Go.IntKind.wrap Go.IntKind.i64 x1)), (.i (Go.IntKind.wrap Go.IntKind.i64 x2)), (.i (Go.IntKind.wrap Go.IntKind.i64 x3)), (.i (x4)), (.b (Bool.true))])))
 (.no)
def y_lRead : Nat → Option Nat := (syOf3 [26, 30] [] [])
def TL_lRead (l : List At) : Tr (List At) := T_lRead (aI l 0) (aI l 1) (aI l 2) (aI l 3) (aI l 4) (aI l 5) (aI l 6) (aI l 7)
theorem e_lRead (l : List At) : (call Try.prog Γ_rLine y_lRead noLoops 100 Try.f14 (mkV ish_lRead l) (mkH ish_lRead l)).bind (leafO 0 osh_lRead) = TL_lRead l := by kernel_rfl
def r_lRead_0 (x0 : Int) (x1 : Int) (x2 : Int) (x3 : Int) (x4 : Int) (x5 : Int) (x6 : Int) (x7 : Int) : Int :=
  bif Go.Proofs.Ythpcjcdiaifoiaa.G.ok_lLine (Go.IntKind.wrap Go.IntKind.i64 x1) (Go.IntKind.wrap Go.IntKind.i64 x2) (Go.IntKind.wrap Go.IntKind.i64 x3) x4 then (bif Go.Proofs.Ythpcjcdiaifoiaa.G.r_lLine_8 (Go.IntKind.wrap Go.IntKind.i64 x1) (Go.IntKind.wrap Go.IntKind.i64 x2) (Go.IntKind.wrap Go.IntKind.i64 x3) x4 != (0 : Int) then ((0 : Int))
  else bif !(Go.Proofs.Ythpcjcdiaifoiaa.G.r_lLine_0 (Go.IntKind.wrap Go.IntKind.i64 x1) (Go.IntKind.wrap Go.IntKind.i64 x2) (Go.IntKind.wrap Go.IntKind.i64 x3) x4 == x0 && (Go.Proofs.Ythpcjcdiaifoiaa.G.r_lLine_1 (Go.IntKind.wrap Go.IntKind.i64 x1) (Go.IntKind.wrap Go.IntKind.i64 x2) (Go.IntKind.wrap Go.IntKind.i64 x3) x4 == x1 && (Go.Proofs.Ythpcjcdiaifoiaa.G.r_lLine_2 (Go.IntKind.wrap Go.IntKind.i64 x1) (Go.IntKind.wrap Go.IntKind.i64 x2) (Go.IntKind.wrap Go.IntKind.i64 x3) x4 == x2 && (Go.Proofs.Ythpcjcdiaifoiaa.G.r_lLine_3 (Go.IntKind.wrap Go.IntKind.i64 x1) (Go.IntKind.wrap Go.IntKind.i64 x2) (Go.IntKind.wrap Go.IntKind.i64 x3) x4 == x3 && (Go.Proofs.Ythpcjcdiaifoiaa.G.r_lLine_4 (Go.IntKind.wrap Go.IntKind.i64 x1) (Go.IntKind.wrap Go.IntKind.i64 x2) (Go.IntKind.wrap Go.IntKind.i64 x3) x4 == x4 && (Go.Proofs.Ythpcjcdiaifoiaa.G.r_lLine_5 (Go.IntKind.wrap Go.IntKind.i64 x1) (Go.IntKind.wrap Go.IntKind.i64 x2) (Go.IntKind.wrap Go.IntKind.i64 x3) x4 == x5 && (Go.Proofs.Ythpcjcdiaifoiaa.G.r_lLine_6 (Go.IntKind.wrap Go.IntKind.i64 x1) (Go.IntKind.wrap Go.IntKind.i64 x2) (Go.IntKind.wrap Go.IntKind.i64 x3) x4 == x6 && (Go.Proofs.Ythpcjcdiaifoiaa.G.r_lLine_7 (Go.IntKind.wrap Go.IntKind.i64 x1) (Go.IntKind.wrap Go.IntKind.i64 x2) (Go.IntKind.wrap Go.IntKind.i64 x3) x4 == x7 && Bool.true)))))))) then ((0 : Int))
  else Go.IntKind.wrap Go.IntKind.i64 x1)
  else 0
def r_lRead_1 (x0 : Int) (x1 : Int) (x2 : Int) (x3 : Int) (x4 : Int) (x5 : Int) (x6 : Int) (x7 : Int) : Int :=
  bif Go.Proofs.Ythpcjcdiaifoiaa.G.ok_lLine (Go.IntKind.wrap Go.IntKind.i64 x1) (Go.IntKind.wrap Go.IntKind.i64 x2) (Go.IntKind.wrap Go.IntKind.i64 x3) x4 then (bif Go.Proofs.Ythpcjcdiaifoiaa.G.r_lLine_8 (Go.IntKind.wrap Go.IntKind.i64 x1) (Go.IntKind.wrap Go.IntKind.i64 x2) (Go.IntKind.wrap Go.IntKind.i64 x3) x4 != (0 : Int) then ((0 : Int))
  else bif !(Go.Proofs.Ythpcjcdiaifoiaa.G.r_lLine_0 (Go.IntKind.wrap Go.IntKind.i64 x1) (Go.IntKind.wrap Go.IntKind.i64 x2) (Go.IntKind.wrap Go.IntKind.i64 x3) x4 == x0 && (Go.Proofs.Ythpcjcdiaifoiaa.G.r_lLine_1 (Go.IntKind.wrap Go.IntKind.i64 x1) (Go.IntKind.wrap Go.IntKind.i64 x2) (Go.IntKind.wrap Go.IntKind.i64 x3) x4 == x1 && (Go.Proofs.Ythpcjcdiaifoiaa.G.r_lLine_2 (Go.IntKind.wrap Go.IntKind.i64 x1) (Go.IntKind.wrap Go.IntKind.i64 x2) (Go.IntKind.wrap Go.IntKind.i64 x3) x4 == x2 && (Go.Proofs.Ythpcjcdiaifoiaa.G.r_lLine_3 (Go.IntKind.wrap Go.IntKind.i64 x1) (Go.IntKind.wrap Go.IntKind.i64 x2) (Go.IntKind.wrap Go.IntKind.i64 x3) x4 == x3 && (Go.Proofs.Ythpcjcdiaifoiaa.G.r_lLine_4 (Go.IntKind.wrap Go.IntKind.i64 x1) (Go.IntKind.wrap Go.IntKind.i64 x2) (Go.IntKind.wrap Go.IntKind.i64 x3) x4 == x4 && (Go.Proofs.Ythpcjcdiaifoiaa.G.r_lLine_5 (Go.IntKind.wrap Go.IntKind.i64 x1) (Go.IntKind.wrap Go.IntKind.i64 x2) (Go.IntKind.wrap Go.IntKind.i64 x3) x4 == x5 && (Go.Proofs.Ythpcjcdiaifoiaa.G.r_lLine_6 (Go.IntKind.wrap Go.IntKind.i64 x1) (Go.IntKind.wrap Go.IntKind.i64 x2) (Go.IntKind.wrap Go.IntKind.i64 x3) x4 == x6 && (Go.Proofs.Ythpcjcdiaifoiaa.G.r_lLine_7 (Go.IntKind.wrap Go.IntKind.i64 x1) (Go.IntKind.wrap Go.IntKind.i64 x2) (Go.IntKind.wrap Go.IntKind.i64 x3) x4 == x7 && Bool.true)))))))) then ((0 : Int))
  else Go.IntKind.wrap Go.IntKind.i64 x2)
  else 0
def r_lRead_2 (x0 : Int) (x1 : Int) (x2 : Int) (x3 : Int) (x4 : Int) (x5 : Int) (x6 : Int) (x7 : Int) : Int :=
  bif Go.Proofs.Ythpcjcdiaifoiaa.G.ok_lLine (Go.IntKind.wrap Go.IntKind.i64 x1) (Go.IntKind.wrap Go.IntKind.i64 x2) (Go.IntKind.wrap Go.IntKind.i64 x3) x4 then (bif Go.Proofs.Ythpcjcdiaifoiaa.G.r_lLine_8 (Go.IntKind.wrap Go.IntKind.i64 x1) (Go.IntKind.wrap Go.IntKind.i64 x2) (Go.IntKind.wrap Go.IntKind.i64 x3) x4 != (0 : Int) then ((0 : Int))
  else bif !(Go.Proofs.Ythpcjcdiaifoiaa.G.r_lLine_0 (Go.IntKind.wrap Go.IntKind.i64 x1) (Go.IntKind.wrap Go.IntKind.i64 x2) (Go.IntKind.wrap Go.IntKind.i64 x3) x4 == x0 && (Go.Proofs.Ythpcjcdiaifoiaa.G.r_lLine_1 (Go.IntKind.wrap Go.IntKind.i64 x1) (Go.IntKind.wrap Go.IntKind.i64 x2) (Go.IntKind.wrap Go.IntKind.i64 x3) x4 == x1 && (Go.Proofs.Ythpcjcdiaifoiaa.G.r_lLine_2 (Go.IntKind.wrap Go.IntKind.i64 x1) (Go.IntKind.wrap Go.IntKind.i64 x2) (Go.IntKind.wrap Go.IntKind.i64 x3) x4 == x2 && (Go.Proofs.Ythpcjcdiaifoiaa.G.r_lLine_3 (Go.IntKind.wrap Go.IntKind.i64 x1) (Go.IntKind.wrap Go.IntKind.i64 x2) (Go.IntKind.wrap Go.IntKind.i64 x3) x4 == x3 && (Go.Proofs.Ythpcjcdiaifoiaa.G.r_lLine_4 (Go.IntKind.wrap Go.IntKind.i64 x1) (Go.IntKind.wrap Go.IntKind.i64 x2) (Go.IntKind.wrap Go.IntKind.i64 x3) x4 == x4 && (Go.Proofs.Ythpcjcdiaifoiaa.G.r_lLine_5 (Go.IntKind.wrap Go.IntKind.i64 x1) (Go.IntKind.wrap Go.IntKind.i64 x2) (Go.IntKind.wrap Go.IntKind.i64 x3) x4 == x5 && (Go.Proofs.Ythpcjcdiaifoiaa.G.r_lLine_6 (Go.IntKind.wrap Go.IntKind.i64 x1) (Go.IntKind.wrap Go.IntKind.i64 x2) (Go.IntKind.wrap Go.IntKind.i64 x3) x4 == x6 && (Go.Proofs.Ythpcjcdiaifoiaa.G.r_lLine_7 (Go.IntKind.wrap Go.IntKind.i64 x1) (Go.IntKind.wrap Go.IntKind.i64 x2) (Go.IntKind.wrap Go.IntKind.i64 x3) x4 == x7 && Bool.true)))))))) then ((0 : Int))
  else Go.IntKind.wrap Go.IntKind.i64 x3)
  else 0
def r_lRead_3 (x0 : Int) (x1 : Int) (x2 : Int) (x3 : Int) (x4 : Int) (x5 : Int) (x6 : Int) (x7 : Int) : Int :=
  bif Go.Proofs.Ythpcjcdiaifoiaa.G.ok_lLine (Go.IntKind.wrap Go.IntKind.i64 x1) (Go.IntKind.wrap Go.IntKind.i64 x2) (Go.IntKind.wrap Go.IntKind.i64 x3) x4 then (bif Go.Proofs.Ythpcjcdiaifoiaa.G.r_lLine_8 (Go.IntKind.wrap Go.IntKind.i64 x1) (Go.IntKind.wrap Go.IntKind.i64 x2) (Go.IntKind.wrap Go.IntKind.i64 x3) x4 != (0 : Int) then ((0 : Int))
  else bif !(Go.Proofs.Ythpcjcdiaifoiaa.G.r_lLine_0 (Go.IntKind.wrap Go.IntKind.i64 x1) (Go.IntKind.wrap Go.IntKind.i64 x2) (Go.IntKind.wrap Go.IntKind.i64 x3) x4 == x0 && (Go.Proofs.Ythpcjcdiaifoiaa.G.r_lLine_1 (Go.IntKind.wrap Go.IntKind.i64 x1) (Go.IntKind.wrap Go.IntKind.i64 x2) (Go.IntKind.wrap Go.IntKind.i64 x3) x4 == x1 && (Go.Proofs.Ythpcjcdiaifoiaa.G.r_lLine_2 (Go.IntKind.wrap Go.IntKind.i64 x1) (Go.IntKind.wrap Go.IntKind.i64 x2) (Go.IntKind.wrap Go.IntKind.i64 x3) x4 == x2 && (Go.Proofs.Ythpcjcdiaifoiaa.G.r_lLine_3 (Go.IntKind.wrap Go.IntKind.i64 x1) (Go.IntKind.wrap Go.IntKind.i64 x2) (Go.IntKind.wrap Go.IntKind.i64 x3) x4 == x3 && (Go.Proofs.Ythpcjcdiaifoiaa.G.r_lLine_4 (Go.IntKind.wrap Go.IntKind.i64 x1) (Go.IntKind.wrap Go.IntKind.i64 x2) (Go.IntKind.wrap Go.IntKind.i64 x3) x4 == x4 && (Go.Proofs.Ythpcjcdiaifoiaa.G.r_lLine_5 (Go.IntKind.wrap Go.IntKind.i64 x1) (Go.IntKind.wrap Go.IntKind.i64 x2) (Go.IntKind.wrap Go.IntKind.i64 x3) x4 == x5 && (Go.Proofs.Ythpcjcdiaifoiaa.G.r_lLine_6 (Go.IntKind.wrap Go.IntKind.i64 x1) (Go.IntKind.wrap Go.IntKind.i64 x2) (Go.IntKind.wrap Go.IntKind.i64 x3) x4 == x6 && (Go.Proofs.Ythpcjcdiaifoiaa.G.r_lLine_7 (Go.IntKind.wrap Go.IntKind.i64 x1) (Go.IntKind.wrap Go.IntKind.i64 x2) (Go.IntKind.wrap Go.IntKind.i64 x3) x4 == x7 && Bool.true)))))))) then ((0 : Int))
  else x4)
  else 0
def r_lRead_4 (x0 : Int) (x1 : Int) (x2 : Int) (x3 : Int) (x4 : Int) (x5 : Int) (x6 : Int) (x7 : Int) : Bool :=
  bif Go.Proofs.Ythpcjcdiaifoiaa.G.ok_lLine (Go.IntKind.wrap Go.IntKind.i64 x1) (Go.IntKind.wrap Go.IntKind.i64 x2) (Go.IntKind.wrap Go.IntKind.i64 x3) x4 then (bif Go.Proofs.Ythpcjcdiaifoiaa.G.r_lLine_8 (Go.IntKind.wrap Go.IntKind.i64 x1) (Go.IntKind.wrap Go.IntKind.i64 x2) (Go.IntKind.wrap Go.IntKind.i64 x3) x4 != (0 : Int) then (Bool.false)
  else bif !(Go.Proofs.Ythpcjcdiaifoiaa.G.r_lLine_0 (Go.IntKind.wrap Go.IntKind.i64 x1) (Go.IntKind.wrap Go.IntKind.i64 x2) (Go.IntKind.wrap Go.IntKind.i64 x3) x4 == x0 && (Go.Proofs.Ythpcjcdiaifoiaa.G.r_lLine_1 (Go.IntKind.wrap Go.IntKind.i64 x1) (Go.IntKind.wrap Go.IntKind.i64 x2) (Go.IntKind.wrap Go.IntKind.i64 x3) x4 == x1 && (Go.Proofs.Ythpcjcdiaifoiaa.G.r_lLine_2 (Go.IntKind.wrap Go.IntKind.i64 x1) (Go.IntKind.wrap Go.IntKind.i64 x2) (Go.IntKind.wrap Go.IntKind.i64 x3) x4 == x2 && (Go.Proofs.Ythpcjcdiaifoiaa.G.r_lLine_3 (Go.IntKind.wrap Go.IntKind.i64 x1) (Go.IntKind.wrap Go.IntKind.i64 x2) (Go.IntKind.wrap Go.IntKind.i64 x3) x4 == x3 && (Go.Proofs.Ythpcjcdiaifoiaa.G.r_lLine_4 (Go.IntKind.wrap Go.IntKind.i64 x1) (Go.IntKind.wrap Go.IntKind.i64 x2) (Go.IntKind.wrap Go.IntKind.i64 x3) x4 == x4 && (Go.Proofs.Ythpcjcdiaifoiaa.G.r_lLine_5 (Go.IntKind.wrap Go.IntKind.i64 x1) (Go.IntKind.wrap Go.IntKind.i64 x2) (Go.IntKind.wrap Go.IntKind.i64 x3) x4 == x5 && (Go.Proofs.Ythpcjcdiaifoiaa.G.r_lLine_6 (Go.IntKind.wrap Go.IntKind.i64 x1) (Go.IntKind.wrap Go.IntKind.i64 x2) (Go.IntKind.wrap Go.IntKind.i64 x3) x4 == x6 && (Go.Proofs.Ythpcjcdiaifoiaa.G.r_lLine_7 (Go.IntKind.wrap Go.IntKind.i64 x1) (Go.IntKind.wrap Go.IntKind.i64 x2) (Go.IntKind.wrap Go.IntKind.i64 x3) x4 == x7 && Bool.true)))))))) then (Bool.false)
  else Bool.true)
  else false
def ok_lRead (x0 : Int) (x1 : Int) (x2 : Int) (x3 : Int) (x4 : Int) (x5 : Int) (x6 : Int) (x7 : Int) : Bool :=
  bif Go.Proofs.Ythpcjcdiaifoiaa.G.ok_lLine (Go.IntKind.wrap Go.IntKind.i64 x1) (Go.IntKind.wrap Go.IntKind.i64 x2) (Go.IntKind.wrap Go.IntKind.i64 x3) x4 then (bif Go.Proofs.Ythpcjcdiaifoiaa.G.r_lLine_8 (Go.IntKind.wrap Go.IntKind.i64 x1) (Go.IntKind.wrap Go.IntKind.i64 x2) (Go.IntKind.wrap Go.IntKind.i64 x3) x4 != (0 : Int) then (true)
  else bif !(Go.Proofs.Ythpcjcdiaifoiaa.G.r_lLine_0 (Go.IntKind.wrap Go.IntKind.i64 x1) (Go.IntKind.wrap Go.IntKind.i64 x2) (Go.IntKind.wrap Go.IntKind.i64 x3) x4 == x0 && (Go.Proofs.Ythpcjcdiaifoiaa.G.r_lLine_1 (Go.IntKind.wrap Go.IntKind.i64 x1) (Go.IntKind.wrap Go.IntKind.i64 x2) (Go.IntKind.wrap Go.IntKind.i64 x3) x4 == x1 && (Go.Proofs.Ythpcjcdiaifoiaa.G.r_lLine_2 (Go.IntKind.wrap Go.IntKind.i64 x1) (Go.IntKind.wrap Go.IntKind.i64 x2) (Go.IntKind.wrap Go.IntKind.i64 x3) x4 == x2 && (Go.Proofs.Ythpcjcdiaifoiaa.G.r_lLine_3 (Go.IntKind.wrap Go.IntKind.i64 x1) (Go.IntKind.wrap Go.IntKind.i64 x2) (Go.IntKind.wrap Go.IntKind.i64 x3) x4 == x3 && (Go.Proofs.Ythpcjcdiaifoiaa.G.r_lLine_4 (Go.IntKind.wrap Go.IntKind.i64 x1) (Go.IntKind.wrap Go.IntKind.i64 x2) (Go.IntKind.wrap Go.IntKind.i64 x3) x4 == x4 && (Go.Proofs.Ythpcjcdiaifoiaa.G.r_lLine_5 (Go.IntKind.wrap Go.IntKind.i64 x1) (Go.IntKind.wrap Go.IntKind.i64 x2) (Go.IntKind.wrap Go.IntKind.i64 x3) x4 == x5 && (Go.Proofs.Ythpcjcdiaifoiaa.G.r_lLine_6 (Go.IntKind.wrap Go.IntKind.i64 x1) (Go.IntKind.wrap Go.IntKind.i64 x2) (Go.IntKind.wrap Go.IntKind.i64 x3) x4 == x6 && (Go.Proofs.Ythpcjcdiaifoiaa.G.r_lLine_7 (Go.IntKind.wrap Go.IntKind.i64 x1) (Go.IntKind.wrap Go.IntKind.i64 x2) (Go.IntKind.wrap Go.IntKind.i64 x3) x4 == x7 && Bool.true)))))))) then (true)
  else true)
  else false
def F_lRead : List At → Tr (List At) := fun l => .br 0 (ok_lRead (aI l 0) (aI l 1) (aI l 2) (aI l 3) (aI l 4) (aI l 5) (aI l 6) (aI l 7)) (.ok [.i (r_lRead_0 (aI l 0) (aI l 1) (aI l 2) (aI l 3) (aI l 4) (aI l 5) (aI l 6) (aI l 7)), .i (r_lRead_1 (aI l 0) (aI l 1) (aI l 2) (aI l 3) (aI l 4) (aI l 5) (aI l 6) (aI l 7)), .i (r_lRead_2 (aI l 0) (aI l 1) (aI l 2) (aI l 3) (aI l 4) (aI l 5) (aI l 6) (aI l 7)), .i (r_lRead_3 (aI l 0) (aI l 1) (aI l 2) (aI l 3) (aI l 4) (aI l 5) (aI l 6) (aI l 7)), .b (r_lRead_4 (aI l 0) (aI l 1) (aI l 2) (aI l 3) (aI l 4) (aI l 5) (aI l 6) (aI l 7))]) .no
theorem s_lRead : SpecF Try.prog 14 (.pure (locP ish_lRead osh_lRead F_lRead)) :=
  spec_locP (sy := y_lRead) (fuel := 100) (Lp := noLoops) o_rLine mixed ⟨Try.func14, by kernel_rfl, by kernel_rfl⟩ ish_lRead osh_lRead rfl (noLoops_ok _) (hT_merged [.i, .i, .i, .i, .b] e_lRead (fun l => by kernel_rfl) (fun l => by kernel_rfl))
def Γ_lRead : Specs := upd Γ_rLine 14 (.pure (locP ish_lRead osh_lRead F_lRead))
theorem o_lRead : SpecOK Try.prog Γ_lRead := SpecOK.upd o_rLine s_lRead

/-! ### rRead -/

def ish_rRead : FSh := ⟨[.v true [.k (.n .u64), .k (.n .u64), .k (.n .u64), .k (.n .u64), .k (.n .u64), .k (.n .u64), .k (.n .u64), .k (.n .u64)]], []⟩
def osh_rRead : FSh := ⟨[.tup [(true, [.k (.n .i64), .k (.n .i64), .k (.n .i64), .k (.n .u64)]), (false, [.k .b])]], []⟩
def T_rRead (x0 : Int) (x1 : Int) (x2 : Int) (x3 : Int) (x4 : Int) (x5 : Int) (x6 : Int) (x7 : Int) : Tr (List At) :=
 .br 0 (Go.Proofs.Ythpcjcdiaifoiaa.G.ok_rLine (Go.IntKind.wrap Go.IntKind.i64 x1) (Go.IntKind.wrap Go.IntKind.i64 x2) (Go.IntKind.wrap Go.IntKind.i64 x3) x4)
 (.br 26 (Go.Proofs.Ythpcjcdiaifoiaa.G.r_rLine_8 (Go.IntKind.wrap Go.IntKind.i64 x1) (Go.IntKind.wrap Go.IntKind.i64 x2) (Go.IntKind.wrap Go.IntKind.i64 x3) x4 != (0 : Int))
 (.ok [(.i ((0 : Int))), (.i ((0 : Int))), (.i ((0 : Int))), (.i ((0 : Int))), (.b (Bool.false))])
 (.br 30 (!(Go.Proofs.Ythpcjcdiaifoiaa.G.r_rLine_0 (Go.IntKind.wrap Go.IntKind.i64 x1) (Go.IntKind.wrap Go.IntKind.i64 x2) (Go.IntKind.wrap Go.IntKind.i64 x3) x4 == x0 && (Go.Proofs.Ythpcjcdiaifoiaa.G.r_rLine_1 (Go.IntKind.wrap Go.IntKind.i64 x1) (Go.IntKind.wrap Go.IntKind.i64 x2) (Go.IntKind.wrap Go.IntKind.i64 x3) x4 == x1 && (Go.Proofs.Ythpcjcdiaifoiaa.G.r_rLine_2 (Go.IntKind.wrap Go.IntKind.i64 x1) (Go.IntKind.wrap Go.IntKind.i64 x2) (Go.IntKind.wrap Go.IntKind.i64 x3) x4 == x2 && (Go.Proofs.Ythpcjcdiaifoiaa.G.r_rLine_3 (Go.IntKind.wrap Go.IntKind.i64 x1) (Go.IntKind.wrap Go.IntKind.i64 x2) (Go.IntKind.wrap Go.IntKind.i64 x3) x4 == x3 && (Go.Proofs.Ythpcjcdiaifoiaa.G.r_rLine_4 (Go.IntKind.wrap Go.IntKind.i64 x1) (Go.IntKind.wrap Go.IntKind.i64 x2) (Go.IntKind.wrap Go.IntKind.i64 x3) x4 == x4 && (Go.Proofs.Ythpcjcdiaifoiaa.G.r_rLine_5 (Go.IntKind.wrap Go.IntKind.i64 x1) (Go.IntKind.wrap Go.IntKind.i64 x2) (Go.IntKind.wrap Go.IntKind.i64 x3) x4 == x5 && (Go.Proofs.Ythpcjcdiaifoiaa.G.r_rLine_6 (Go.IntKind.wrap Go.IntKind.i64 x1) (Go.IntKind.wrap Go.IntKind.i64 x2) (Go.IntKind.wrap Go.IntKind.i64 x3) x4 == x6 && (Go.Proofs.Ythpcjcdiaifoiaa.G.r_rLine_7 (Go.IntKind.wrap Go.IntKind.i64 x1) (Go.IntKind.wrap Go.IntKind.i64 x2) (Go.IntKind.wrap Go.IntKind.i64 x3) x4 == x7 && Bool.true)))))))))
 (.ok [(.i ((0 : Int))), (.i ((0 : Int))), (.i ((0 : Int))), (.i ((0 : Int))), (.b (Bool.false))])
 (.ok [(.i (Go.IntKind.wrap Go.IntKind.i64 x1)), (.i (Go.IntKind.wrap Go.IntKind.i64 x2)), (.i (Go.IntKind.wrap Go.IntKind.i64 x3)), (.i (x4)), (.b (Bool.true))])))
 (.no)
def y_rRead : Nat → Option Nat := (syOf3 [26, 30] [] [])
def TL_rRead (l : List At) : Tr (List At) := T_rRead (aI l 0) (aI l 1) (aI l 2) (aI l 3) (aI l 4) (aI l 5) (aI l 6) (aI l 7)
theorem e_rRead (l : List At) : (call Try.prog Γ_lRead y_rRead noLoops 100 Try.f15 (mkV ish_rRead l) (mkH ish_rRead l)).bind (leafO 0 osh_rRead) = TL_rRead l := by kernel_rfl
def r_rRead_0 (x0 : Int) (x1 : Int) (x2 : Int) (x3 : Int) (x4 : Int) (x5 : Int) (x6 : Int) (x7 : Int) : Int :=
  bif Go.Proofs.Ythpcjcdiaifoiaa.G.ok_rLine (Go.IntKind.wrap Go.IntKind.i64 x1) (Go.IntKind.wrap Go.IntKind.i64 x2) (Go.IntKind.wrap Go.IntKind.i64 x3) x4 then (bif Go.Proofs.Ythpcjcdiaifoiaa.G.r_rLine_8 (Go.IntKind.wrap Go.IntKind.i64 x1) (Go.IntKind.wrap Go.IntKind.i64 x2) (Go.IntKind.wrap Go.IntKind.i64 x3) x4 != (0 : Int) then ((0 : Int))
  else bif !(Go.Proofs.Ythpcjcdiaifoiaa.G.r_rLine_0 (Go.IntKind.wrap Go.IntKind.i64 x1) (Go.IntKind.wrap Go.IntKind.i64 x2) (Go.IntKind.wrap Go.IntKind.i64 x3) x4 == x0 && (Go.Proofs.Ythpcjcdiaifoiaa.G.r_rLine_1 (Go.IntKind.wrap Go.IntKind.i64 x1) (Go.IntKind.wrap Go.IntKind.i64 x2) (Go.IntKind.wrap Go.IntKind.i64 x3) x4 == x1 && (Go.Proofs.Ythpcjcdiaifoiaa.G.r_rLine_2 (Go.IntKind.wrap Go.IntKind.i64 x1) (Go.IntKind.wrap Go.IntKind.i64 x2) (Go.IntKind.wrap Go.IntKind.i64 x3) x4 == x2 && (Go.Proofs.Ythpcjcdiaifoiaa.G.r_rLine_3 (Go.IntKind.wrap Go.IntKind.i64 x1) (Go.IntKind.wrap Go.IntKind.i64 x2) (Go.IntKind.wrap Go.IntKind.i64 x3) x4 == x3 && (Go.Proofs.Ythpcjcdiaifoiaa.G.r_rLine_4 (Go.IntKind.wrap Go.IntKind.i64 x1) (Go.IntKind.wrap Go.IntKind.i64 x2) (Go.IntKind.wrap Go.IntKind.i64 x3) x4 == x4 && (Go.Proofs.Ythpcjcdiaifoiaa.G.r_rLine_5 (Go.IntKind.wrap Go.IntKind.i64 x1) (Go.IntKind.wrap Go.IntKind.i64 x2) (Go.IntKind.wrap Go.IntKind.i64 x3) x4 == x5 && (Go.Proofs.Ythpcjcdiaifoiaa.G.r_rLine_6 (Go.IntKind.wrap Go.IntKind.i64 x1) (Go.IntKind.wrap Go.IntKind.i64 x2) (Go.IntKind.wrap Go.IntKind.i64 x3) x4 == x6 && (Go.Proofs.Ythpcjcdiaifoiaa.G.r_rLine_7 (Go.IntKind.wrap Go.IntKind.i64 x1) (Go.IntKind.wrap Go.IntKind.i64 x2) (Go.IntKind.wrap Go.IntKind.i64 x3) x4 == x7 && Bool.true)))))))) then ((0 : Int))
  else Go.IntKind.wrap Go.IntKind.i64 x1)
  else 0
def r_rRead_1 (x0 : Int) (x1 : Int) (x2 : Int) (x3 : Int) (x4 : Int) (x5 : Int) (x6 : Int) (x7 : Int) : Int :=
  bif Go.Proofs.Ythpcjcdiaifoiaa.G.ok_rLine (Go.IntKind.wrap Go.IntKind.i64 x1) (Go.IntKind.wrap Go.IntKind.i64 x2) (Go.IntKind.wrap Go.IntKind.i64 x3) x4 then (bif Go.Proofs.Ythpcjcdiaifoiaa.G.r_rLine_8 (Go.IntKind.wrap Go.IntKind.i64 x1) (Go.IntKind.wrap Go.IntKind.i64 x2) (Go.IntKind.wrap Go.IntKind.i64 x3) x4 != (0 : Int) then ((0 : Int))
  else bif !(Go.Proofs.Ythpcjcdiaifoiaa.G.r_rLine_0 (Go.IntKind.wrap Go.IntKind.i64 x1) (Go.IntKind.wrap Go.IntKind.i64 x2) (Go.IntKind.wrap Go.IntKind.i64 x3) x4 == x0 && (Go.Proofs.Ythpcjcdiaifoiaa.G.r_rLine_1 (Go.IntKind.wrap Go.IntKind.i64 x1) (Go.IntKind.wrap Go.IntKind.i64 x2) (Go.IntKind.wrap Go.IntKind.i64 x3) x4 == x1 && (Go.Proofs.Ythpcjcdiaifoiaa.G.r_rLine_2 (Go.IntKind.wrap Go.IntKind.i64 x1) (Go.IntKind.wrap Go.IntKind.i64 x2) (Go.IntKind.wrap Go.IntKind.i64 x3) x4 == x2 && (Go.Proofs.Ythpcjcdiaifoiaa.G.r_rLine_3 (Go.IntKind.wrap Go.IntKind.i64 x1) (Go.IntKind.wrap Go.IntKind.i64 x2) (Go.IntKind.wrap Go.IntKind.i64 x3) x4 == x3 && (Go.Proofs.Ythpcjcdiaifoiaa.G.r_rLine_4 (Go.IntKind.wrap Go.IntKind.i64 x1) (Go.IntKind.wrap Go.IntKind.i64 x2) (Go.IntKind.wrap Go.IntKind.i64 x3) x4 == x4 && (Go.Proofs.Ythpcjcdiaifoiaa.G.r_rLine_5 (Go.IntKind.wrap Go.IntKind.i64 x1) (Go.IntKind.wrap Go.IntKind.i64 x2) (Go.IntKind.wrap Go.IntKind.i64 x3) x4 == x5 && (Go.Proofs.Ythpcjcdiaifoiaa.G.r_rLine_6 (Go.IntKind.wrap Go.IntKind.i64 x1) (Go.IntKind.wrap Go.IntKind.i64 x2) (Go.IntKind.wrap Go.IntKind.i64 x3) x4 == x6 && (Go.Proofs.Ythpcjcdiaifoiaa.G.r_rLine_7 (Go.IntKind.wrap Go.IntKind.i64 x1) (Go.IntKind.wrap Go.IntKind.i64 x2) (Go.IntKind.wrap Go.IntKind.i64 x3) x4 == x7 && Bool.true)))))))) then ((0 : Int))
  else Go.IntKind.wrap Go.IntKind.i64 x2)
  else 0
def r_rRead_2 (x0 : Int) (x1 : Int) (x2 : Int) (x3 : Int) (x4 : Int) (x5 : Int) (x6 : Int) (x7 : Int) : Int :=
  bif Go.Proofs.Ythpcjcdiaifoiaa.G.ok_rLine (Go.IntKind.wrap Go.IntKind.i64 x1) (Go.IntKind.wrap Go.IntKind.i64 x2) (Go.IntKind.wrap Go.IntKind.i64 x3) x4 then (bif Go.Proofs.Ythpcjcdiaifoiaa.G.r_rLine_8 (Go.IntKind.wrap Go.IntKind.i64 x1) (Go.IntKind.wrap Go.IntKind.i64 x2) (Go.IntKind.wrap Go.IntKind.i64 x3) x4 != (0 : Int) then ((0 : Int))
  else bif !(Go.Proofs.Ythpcjcdiaifoiaa.G.r_rLine_0 (Go.IntKind.wrap Go.IntKind.i64 x1) (Go.IntKind.wrap Go.IntKind.i64 x2) (Go.IntKind.wrap Go.IntKind.i64 x3) x4 == x0 && (Go.Proofs.Ythpcjcdiaifoiaa.G.r_rLine_1 (Go.IntKind.wrap Go.IntKind.i64 x1) (Go.IntKind.wrap Go.IntKind.i64 x2) (Go.IntKind.wrap Go.IntKind.i64 x3) x4 == x1 && (Go.Proofs.Ythpcjcdiaifoiaa.G.r_rLine_2 (Go.IntKind.wrap Go.IntKind.i64 x1) (Go.IntKind.wrap Go.IntKind.i64 x2) (Go.IntKind.wrap Go.IntKind.i64 x3) x4 == x2 && (Go.Proofs.Ythpcjcdiaifoiaa.G.r_rLine_3 (Go.IntKind.wrap Go.IntKind.i64 x1) (Go.IntKind.wrap Go.IntKind.i64 x2) (Go.IntKind.wrap Go.IntKind.i64 x3) x4 == x3 && (Go.Proofs.Ythpcjcdiaifoiaa.G.r_rLine_4 (Go.IntKind.wrap Go.IntKind.i64 x1) (Go.IntKind.wrap Go.IntKind.i64 x2) (Go.IntKind.wrap Go.IntKind.i64 x3) x4 == x4 && (Go.Proofs.Ythpcjcdiaifoiaa.G.r_rLine_5 (Go.IntKind.wrap Go.IntKind.i64 x1) (Go.IntKind.wrap Go.IntKind.i64 x2) (Go.IntKind.wrap Go.IntKind.i64 x3) x4 == x5 && (Go.Proofs.Ythpcjcdiaifoiaa.G.r_rLine_6 (Go.IntKind.wrap Go.IntKind.i64 x1) (Go.IntKind.wrap Go.IntKind.i64 x2) (Go.IntKind.wrap Go.IntKind.i64 x3) x4 == x6 && (Go.Proofs.Ythpcjcdiaifoiaa.G.r_rLine_7 (Go.IntKind.wrap Go.IntKind.i64 x1) (Go.IntKind.wrap Go.IntKind.i64 x2) (Go.IntKind.wrap Go.IntKind.i64 x3) x4 == x7 && Bool.true)))))))) then ((0 : Int))
  else Go.IntKind.wrap Go.IntKind.i64 x3)
  else 0
def r_rRead_3 (x0 : Int) (x1 : Int) (x2 : Int) (x3 : Int) (x4 : Int) (x5 : Int) (x6 : Int) (x7 : Int) : Int :=
  bif Go.Proofs.Ythpcjcdiaifoiaa.G.ok_rLine (Go.IntKind.wrap Go.IntKind.i64 x1) (Go.IntKind.wrap Go.IntKind.i64 x2) (Go.IntKind.wrap Go.IntKind.i64 x3) x4 then (bif Go.Proofs.Ythpcjcdiaifoiaa.G.r_rLine_8 (Go.IntKind.wrap Go.IntKind.i64 x1) (Go.IntKind.wrap Go.IntKind.i64 x2) (Go.IntKind.wrap Go.IntKind.i64 x3) x4 != (0 : Int) then ((0 : Int))
  else bif !(Go.Proofs.Ythpcjcdiaifoiaa.G.r_rLine_0 (Go.IntKind.wrap Go.IntKind.i64 x1) (Go.IntKind.wrap Go.IntKind.i64 x2) (Go.IntKind.wrap Go.IntKind.i64 x3) x4 == x0 && (Go.Proofs.Ythpcjcdiaifoiaa.G.r_rLine_1 (Go.IntKind.wrap Go.IntKind.i64 x1) (Go.IntKind.wrap Go.IntKind.i64 x2) (Go.IntKind.wrap Go.IntKind.i64 x3) x4 == x1 && (Go.Proofs.Ythpcjcdiaifoiaa.G.r_rLine_2 (Go.IntKind.wrap Go.IntKind.i64 x1) (Go.IntKind.wrap Go.IntKind.i64 x2) (Go.IntKind.wrap Go.IntKind.i64 x3) x4 == x2 && (Go.Proofs.Ythpcjcdiaifoiaa.G.r_rLine_3 (Go.IntKind.wrap Go.IntKind.i64 x1) (Go.IntKind.wrap Go.IntKind.i64 x2) (Go.IntKind.wrap Go.IntKind.i64 x3) x4 == x3 && (Go.Proofs.Ythpcjcdiaifoiaa.G.r_rLine_4 (Go.IntKind.wrap Go.IntKind.i64 x1) (Go.IntKind.wrap Go.IntKind.i64 x2) (Go.IntKind.wrap Go.IntKind.i64 x3) x4 == x4 && (Go.Proofs.Ythpcjcdiaifoiaa.G.r_rLine_5 (Go.IntKind.wrap Go.IntKind.i64 x1) (Go.IntKind.wrap Go.IntKind.i64 x2) (Go.IntKind.wrap Go.IntKind.i64 x3) x4 == x5 && (Go.Proofs.Ythpcjcdiaifoiaa.G.r_rLine_6 (Go.IntKind.wrap Go.IntKind.i64 x1) (Go.IntKind.wrap Go.IntKind.i64 x2) (Go.IntKind.wrap Go.IntKind.i64 x3) x4 == x6 && (Go.Proofs.Ythpcjcdiaifoiaa.G.r_rLine_7 (Go.IntKind.wrap Go.IntKind.i64 x1) (Go.IntKind.wrap Go.IntKind.i64 x2) (Go.IntKind.wrap Go.IntKind.i64 x3) x4 == x7 && Bool.true)))))))) then ((0 : Int))
  else x4)
  else 0
def r_rRead_4 (x0 : Int) (x1 : Int) (x2 : Int) (x3 : Int) (x4 : Int) (x5 : Int) (x6 : Int) (x7 : Int) : Bool :=
  bif Go.Proofs.Ythpcjcdiaifoiaa.G.ok_rLine (Go.IntKind.wrap Go.IntKind.i64 x1) (Go.IntKind.wrap Go.IntKind.i64 x2) (Go.IntKind.wrap Go.IntKind.i64 x3) x4 then (bif Go.Proofs.Ythpcjcdiaifoiaa.G.r_rLine_8 (Go.IntKind.wrap Go.IntKind.i64 x1) (Go.IntKind.wrap Go.IntKind.i64 x2) (Go.IntKind.wrap Go.IntKind.i64 x3) x4 != (0 : Int) then (Bool.false)
  else bif !(Go.Proofs.Ythpcjcdiaifoiaa.G.r_rLine_0 (Go.IntKind.wrap Go.IntKind.i64 x1) (Go.IntKind.wrap Go.IntKind.i64 x2) (Go.IntKind.wrap Go.IntKind.i64 x3) x4 == x0 && (Go.Proofs.Ythpcjcdiaifoiaa.G.r_rLine_1 (Go.IntKind.wrap Go.IntKind.i64 x1) (Go.IntKind.wrap Go.IntKind.i64 x2) (Go.IntKind.wrap Go.IntKind.i64 x3) x4 == x1 && (Go.Proofs.Ythpcjcdiaifoiaa.G.r_rLine_2 (Go.IntKind.wrap Go.IntKind.i64 x1) (Go.IntKind.wrap Go.IntKind.i64 x2) (Go.IntKind.wrap Go.IntKind.i64 x3) x4 == x2 && (Go.Proofs.Ythpcjcdiaifoiaa.G.r_rLine_3 (Go.IntKind.wrap Go.IntKind.i64 x1) (Go.IntKind.wrap Go.IntKind.i64 x2) (Go.IntKind.wrap Go.IntKind.i64 x3) x4 == x3 && (Go.Proofs.Ythpcjcdiaifoiaa.G.r_rLine_4 (Go.IntKind.wrap Go.IntKind.i64 x1) (Go.IntKind.wrap Go.IntKind.i64 x2) (Go.IntKind.wrap Go.IntKind.i64 x3) x4 == x4 && (Go.Proofs.Ythpcjcdiaifoiaa.G.r_rLine_5 (Go.IntKind.wrap Go.IntKind.i64 x1) (Go.IntKind.wrap Go.IntKind.i64 x2) (Go.IntKind.wrap Go.IntKind.i64 x3) x4 == x5 && (Go.Proofs.Ythpcjcdiaifoiaa.G.r_rLine_6 (Go.IntKind.wrap Go.IntKind.i64 x1) (Go.IntKind.wrap Go.IntKind.i64 x2) (Go.IntKind.wrap Go.IntKind.i64 x3) x4 == x6 && (Go.Proofs.Ythpcjcdiaifoiaa.G.r_rLine_7 (Go.IntKind.wrap Go.IntKind.i64 x1) (Go.IntKind.wrap Go.IntKind.i64 x2) (Go.IntKind.wrap Go.IntKind.i64 x3) x4 == x7 && Bool.true)))))))) then (Bool.false)
  else Bool.true)
  else false
def ok_rRead (x0 : Int) (x1 : Int) (x2 : Int) (x3 : Int) (x4 : Int) (x5 : Int) (x6 : Int) (x7 : Int) : Bool :=
  bif Go.Proofs.Ythpcjcdiaifoiaa.G.ok_rLine (Go.IntKind.wrap Go.IntKind.i64 x1) (Go.IntKind.wrap Go.IntKind.i64 x2) (Go.IntKind.wrap Go.IntKind.i64 x3) x4 then (bif Go.Proofs.Ythpcjcdiaifoiaa.G.r_rLine_8 (Go.IntKind.wrap Go.IntKind.i64 x1) (Go.IntKind.wrap Go.IntKind.i64 x2) (Go.IntKind.wrap Go.IntKind.i64 x3) x4 != (0 : Int) then (true)
  else bif !(Go.Proofs.Ythpcjcdiaifoiaa.G.r_rLine_0 (Go.IntKind.wrap Go.IntKind.i64 x1) (Go.IntKind.wrap Go.IntKind.i64 x2) (Go.IntKind.wrap Go.IntKind.i64 x3) x4 == x0 && (Go.Proofs.Ythpcjcdiaifoiaa.G.r_rLine_1 (Go.IntKind.wrap Go.IntKind.i64 x1) (Go.IntKind.wrap Go.IntKind.i64 x2) (Go.IntKind.wrap Go.IntKind.i64 x3) x4 == x1 && (Go.Proofs.Ythpcjcdiaifoiaa.G.r_rLine_2 (Go.IntKind.wrap Go.IntKind.i64 x1) (Go.IntKind.wrap Go.IntKind.i64 x2) (Go.IntKind.wrap Go.IntKind.i64 x3) x4 == x2 && (Go.Proofs.Ythpcjcdiaifoiaa.G.r_rLine_3 (Go.IntKind.wrap Go.IntKind.i64 x1) (Go.IntKind.wrap Go.IntKind.i64 x2) (Go.IntKind.wrap Go.IntKind.i64 x3) x4 == x3 && (Go.Proofs.Ythpcjcdiaifoiaa.G.r_rLine_4 (Go.IntKind.wrap Go.IntKind.i64 x1) (Go.IntKind.wrap Go.IntKind.i64 x2) (Go.IntKind.wrap Go.IntKind.i64 x3) x4 == x4 && (Go.Proofs.Ythpcjcdiaifoiaa.G.r_rLine_5 (Go.IntKind.wrap Go.IntKind.i64 x1) (Go.IntKind.wrap Go.IntKind.i64 x2) (Go.IntKind.wrap Go.IntKind.i64 x3) x4 == x5 && (Go.Proofs.Ythpcjcdiaifoiaa.G.r_rLine_6 (Go.IntKind.wrap Go.IntKind.i64 x1) (Go.IntKind.wrap Go.IntKind.i64 x2) (Go.IntKind.wrap Go.IntKind.i64 x3) x4 == x6 && (Go.Proofs.Ythpcjcdiaifoiaa.G.r_rLine_7 (Go.IntKind.wrap Go.IntKind.i64 x1) (Go.IntKind.wrap Go.IntKind.i64 x2) (Go.IntKind.wrap Go.IntKind.i64 x3) x4 == x7 && Bool.true)))))))) then (true)
  else true)
  else false
def F_rRead : List At → Tr (List At) := fun l => .br 0 (ok_rRead (aI l 0) (aI l 1) (aI l 2) (aI l 3) (aI l 4) (aI l 5) (aI l 6) (aI l 7)) (.ok [.i (r_rRead_0 (aI l 0) (aI l 1) (aI l 2) (aI l 3) (aI l 4) (aI l 5) (aI l 6) (aI l 7)), .i (r_rRead_1 (aI l 0) (aI l 1) (aI l 2) (aI l 3) (aI l 4) (aI l 5) (aI l 6) (aI l 7)), .i (r_rRead_2 (aI l 0) (aI l 1) (aI l 2) (aI l 3) (aI l 4) (aI l 5) (aI l 6) (aI l 7)), .i (r_rRead_3 (aI l 0) (aI l 1) (aI l 2) (aI l 3) (aI l 4) (aI l 5) (aI l 6) (aI l 7)), .b (r_rRead_4 (aI l 0) (aI l 1) (aI l 2) (aI l 3) (aI l 4) (aI l 5) (aI l 6) (aI l 7))]) .no
theorem s_rRead : SpecF Try.prog 15 (.pure (locP ish_rRead osh_rRead F_rRead)) :=
  spec_locP (sy := y_rRead) (fuel := 100) (Lp := noLoops) o_lRead mixed ⟨Try.func15, by kernel_rfl, by kernel_rfl⟩ ish_rRead osh_rRead rfl (noLoops_ok _) (hT_merged [.i, .i, .i, .i, .b] e_rRead (fun l => by kernel_rfl) (fun l => by kernel_rfl))
def Γ_rRead : Specs := upd Γ_lRead 15 (.pure (locP ish_rRead osh_rRead F_rRead))
theorem o_rRead : SpecOK Try.prog Γ_rRead := SpecOK.upd o_lRead s_rRead

/-! ### lPlace -/

def ish_lPlace : FSh := ⟨[.v false [.k (.n .i64)], .v false [.k (.n .i64)]], []⟩
def osh_lPlace : FSh := ⟨[.v false [.k (.n .i64)]], []⟩
def T_lPlace (x0 : Int) (x1 : Int) : Tr (List At) :=
 .ok [(.i (Go.IntKind.wrap Go.IntKind.i64 (Go.IntKind.wrap Go.IntKind.i64 ((2 : Int) + Go.IntKind.wrap Go.IntKind.i64 ((4 : Int) * x0)) + x1)))]
def y_lPlace : Nat → Option Nat := (syOf3 [] [] [])
def TL_lPlace (l : List At) : Tr (List At) := T_lPlace (aI l 0) (aI l 1)
theorem e_lPlace (l : List At) : (call Try.prog Γ_rRead y_lPlace noLoops 100 Try.f36 (mkV ish_lPlace l) (mkH ish_lPlace l)).bind (leafO 0 osh_lPlace) = TL_lPlace l := by kernel_rfl
def r_lPlace_0 (x0 : Int) (x1 : Int) : Int :=
  Go.IntKind.wrap Go.IntKind.i64 (Go.IntKind.wrap Go.IntKind.i64 ((2 : Int) + Go.IntKind.wrap Go.IntKind.i64 ((4 : Int) * x0)) + x1)
def F_lPlace : List At → Tr (List At) := fun l => .ok [.i (r_lPlace_0 (aI l 0) (aI l 1))]
theorem s_lPlace : SpecF Try.prog 36 (.pure (locP ish_lPlace osh_lPlace F_lPlace)) :=
  spec_locP (sy := y_lPlace) (fuel := 100) (Lp := noLoops) o_rRead mixed ⟨Try.func36, by kernel_rfl, by kernel_rfl⟩ ish_lPlace osh_lPlace rfl (noLoops_ok _) (hT_merged [.i] e_lPlace (fun l => by kernel_rfl) (fun l => by kernel_rfl))
def Γ_lPlace : Specs := upd Γ_rRead 36 (.pure (locP ish_lPlace osh_lPlace F_lPlace))
theorem o_lPlace : SpecOK Try.prog Γ_lPlace := SpecOK.upd o_rRead s_lPlace

/-! ### rPlace -/

def ish_rPlace : FSh := ⟨[.v false [.k (.n .i64)], .v false [.k (.n .i64)]], []⟩
def osh_rPlace : FSh := ⟨[.v false [.k (.n .i64)]], []⟩
def T_rPlace (x0 : Int) (x1 : Int) : Tr (List At) :=
 .ok [(.i (Go.IntKind.wrap Go.IntKind.i64 (Go.IntKind.wrap Go.IntKind.i64 ((2 : Int) + Go.IntKind.wrap Go.IntKind.i64 ((4 : Int) * x0)) + x1)))]
def y_rPlace : Nat → Option Nat := (syOf3 [] [] [])
def TL_rPlace (l : List At) : Tr (List At) := T_rPlace (aI l 0) (aI l 1)
theorem e_rPlace (l : List At) : (call Try.prog Γ_lPlace y_rPlace noLoops 100 Try.f56 (mkV ish_rPlace l) (mkH ish_rPlace l)).bind (leafO 0 osh_rPlace) = TL_rPlace l := by kernel_rfl
def r_rPlace_0 (x0 : Int) (x1 : Int) : Int :=
  Go.IntKind.wrap Go.IntKind.i64 (Go.IntKind.wrap Go.IntKind.i64 ((2 : Int) + Go.IntKind.wrap Go.IntKind.i64 ((4 : Int) * x0)) + x1)
def F_rPlace : List At → Tr (List At) := fun l => .ok [.i (r_rPlace_0 (aI l 0) (aI l 1))]
theorem s_rPlace : SpecF Try.prog 56 (.pure (locP ish_rPlace osh_rPlace F_rPlace)) :=
  spec_locP (sy := y_rPlace) (fuel := 100) (Lp := noLoops) o_lPlace mixed ⟨Try.func56, by kernel_rfl, by kernel_rfl⟩ ish_rPlace osh_rPlace rfl (noLoops_ok _) (hT_merged [.i] e_rPlace (fun l => by kernel_rfl) (fun l => by kernel_rfl))
def Γ_rPlace : Specs := upd Γ_lPlace 56 (.pure (locP ish_rPlace osh_rPlace F_rPlace))
theorem o_rPlace : SpecOK Try.prog Γ_rPlace := SpecOK.upd o_lPlace s_rPlace

/-! ### isNaN -/

def ish_isNaN : FSh := ⟨[.v false [.k (.n .i64)]], []⟩
def osh_isNaN : FSh := ⟨[.v false [.k .b]], []⟩
def T_isNaN (x0 : Int) : Tr (List At) :=
 .ok [(.b (x0 != x0))]
def y_isNaN : Nat → Option Nat := (syOf3 [] [] [])
def TL_isNaN (l : List At) : Tr (List At) := T_isNaN (aI l 0)
theorem e_isNaN (l : List At) : (call Try.prog Γ_rPlace y_isNaN noLoops 100 Try.f64 (mkV ish_isNaN l) (mkH ish_isNaN l)).bind (leafO 0 osh_isNaN) = TL_isNaN l := by kernel_rfl
def r_isNaN_0 (x0 : Int) : Bool :=
  x0 != x0
def F_isNaN : List At → Tr (List At) := fun l => .ok [.b (r_isNaN_0 (aI l 0))]
theorem s_isNaN : SpecF Try.prog 64 (.pure (locP ish_isNaN osh_isNaN F_isNaN)) :=
  spec_locP (sy := y_isNaN) (fuel := 100) (Lp := noLoops) o_rPlace mixed ⟨Try.func64, by kernel_rfl, by kernel_rfl⟩ ish_isNaN osh_isNaN rfl (noLoops_ok _) (hT_merged [.b] e_isNaN (fun l => by kernel_rfl) (fun l => by kernel_rfl))
def Γ_isNaN : Specs := upd Γ_rPlace 64 (.pure (locP ish_isNaN osh_isNaN F_isNaN))
theorem o_isNaN : SpecOK Try.prog Γ_isNaN := SpecOK.upd o_rPlace s_isNaN

/-! ### cmpI -/

def ish_cmpI : FSh := ⟨[.v false [.k (.n .i64)], .v false [.k (.n .i64)]], []⟩
def osh_cmpI : FSh := ⟨[.v false [.k (.n .i64)]], []⟩
def T_cmpI (x0 : Int) (x1 : Int) : Tr (List At) :=
 .br 11 (Go.Proofs.Ythpcjcdiaifoiaa.G.r_isNaN_0 x0)
 (.br 12 (Go.Proofs.Ythpcjcdiaifoiaa.G.r_isNaN_0 x1)
 (.ok [(.i ((0 : Int)))])
 (.ok [(.i ((-1 : Int)))]))
 (.br 13 (Go.Proofs.Ythpcjcdiaifoiaa.G.r_isNaN_0 x1)
 (.ok [(.i ((1 : Int)))])
 (.br 16 (Decidable.decide (x0 < x1))
 (.ok [(.i ((-1 : Int)))])
 (.br 19 (Decidable.decide (x0 > x1))
 (.ok [(.i ((1 : Int)))])
 (.ok [(.i ((0 : Int)))]))))
def y_cmpI : Nat → Option Nat := (syOf3 [11, 12, 13, 16, 19] [] [])
def TL_cmpI (l : List At) : Tr (List At) := T_cmpI (aI l 0) (aI l 1)
theorem e_cmpI (l : List At) : (call Try.prog Γ_isNaN y_cmpI noLoops 100 Try.f45 (mkV ish_cmpI l) (mkH ish_cmpI l)).bind (leafO 0 osh_cmpI) = TL_cmpI l := by kernel_rfl
def r_cmpI_0 (x0 : Int) (x1 : Int) : Int :=
  bif Go.Proofs.Ythpcjcdiaifoiaa.G.r_isNaN_0 x0 then (bif Go.Proofs.Ythpcjcdiaifoiaa.G.r_isNaN_0 x1 then ((0 : Int))
  else (-1 : Int))
  else bif Go.Proofs.Ythpcjcdiaifoiaa.G.r_isNaN_0 x1 then ((1 : Int))
  else bif Decidable.decide (x0 < x1) then ((-1 : Int))
  else bif Decidable.decide (x0 > x1) then ((1 : Int))
  else (0 : Int)
def F_cmpI : List At → Tr (List At) := fun l => .ok [.i (r_cmpI_0 (aI l 0) (aI l 1))]
theorem s_cmpI : SpecF Try.prog 45 (.pure (locP ish_cmpI osh_cmpI F_cmpI)) :=
  spec_locP (sy := y_cmpI) (fuel := 100) (Lp := noLoops) o_isNaN mixed ⟨Try.func45, by kernel_rfl, by kernel_rfl⟩ ish_cmpI osh_cmpI rfl (noLoops_ok _) (hT_merged [.i] e_cmpI (fun l => by kernel_rfl) (fun l => by kernel_rfl))
def Γ_cmpI : Specs := upd Γ_isNaN 45 (.pure (locP ish_cmpI osh_cmpI F_cmpI))
theorem o_cmpI : SpecOK Try.prog Γ_cmpI := SpecOK.upd o_isNaN s_cmpI

end Go.Proofs.Ythpcjcdiaifoiaa.G
end

/-
  What functions of the seat compute, printed by a program from the explorer.
-/
section
namespace Go.Proofs.Ythpcjcdiaifoiaa.G
open Go Go.AM Go.Proofs
/-! ### kind -/

noncomputable def ish_kind : FSh := ⟨[.v false [.k (.n .i64)], .v false [.k (.n .i64)]], []⟩
noncomputable def osh_kind : FSh := ⟨[.v false [.k (.n .i64)]], []⟩
noncomputable def T_kind (x0 : Int) (x1 : Int) : Tr (List At) :=
 .br 6 (Decidable.decide (x0 < (0 : Int)))
 (.br 12 (x1 != (0 : Int))
 (.ok [(.i (Int.tmod (Go.IntKind.wrap Go.IntKind.i64 ((0 : Int) - Go.IntKind.wrap Go.IntKind.i64 (x0 + (1 : Int)))) x1))])
 (.no))
 (.br 12 (x1 != (0 : Int))
 (.ok [(.i (Int.tmod x0 x1))])
 (.no))
noncomputable def y_kind : Nat → Option Nat := (syOf3 [6, 12] [] [])
noncomputable def TL_kind (l : List At) : Tr (List At) := T_kind (aI l 0) (aI l 1)
theorem e_kind (l : List At) : (call Try.prog Γ_cmpI y_kind noLoops 100 Try.f17 (mkV ish_kind l) (mkH ish_kind l)).bind (leafO 0 osh_kind) = TL_kind l := by kernel_rfl
noncomputable def r_kind_0 (x0 : Int) (x1 : Int) : Int :=
  bif Decidable.decide (x0 < (0 : Int)) then (bif x1 != (0 : Int) then (Int.tmod (Go.IntKind.wrap Go.IntKind.i64 ((0 : Int) - Go.IntKind.wrap Go.IntKind.i64 (x0 + (1 : Int)))) x1)
  else 0)
  else bif x1 != (0 : Int) then (Int.tmod x0 x1)
  else 0
noncomputable def ok_kind (x0 : Int) (x1 : Int) : Bool :=
  bif Decidable.decide (x0 < (0 : Int)) then (bif x1 != (0 : Int) then (true)
  else false)
  else bif x1 != (0 : Int) then (true)
  else false
noncomputable def F_kind : List At → Tr (List At) := fun l => .br 0 (ok_kind (aI l 0) (aI l 1)) (.ok [.i (r_kind_0 (aI l 0) (aI l 1))]) .no
theorem s_kind : SpecF Try.prog 17 (.pure (locP ish_kind osh_kind F_kind)) :=
  spec_locP (sy := y_kind) (fuel := 100) (Lp := noLoops) o_cmpI mixed ⟨Try.func17, by kernel_rfl, by kernel_rfl⟩ ish_kind osh_kind rfl (noLoops_ok _) (hT_merged [.i] e_kind (fun l => by kernel_rfl) (fun l => by kernel_rfl))
noncomputable def Γ_kind : Specs := upd Γ_cmpI 17 (.pure (locP ish_kind osh_kind F_kind))
theorem o_kind : SpecOK Try.prog Γ_kind := SpecOK.upd o_cmpI s_kind

/-! ### step -/

noncomputable def ish_step : FSh := ⟨[.v false [.p 0 0]], [.cells [.opq 1, .k .b, .k .b, .k (.n .i64), .k (.n .i64)], .no]⟩
noncomputable def osh_step : FSh := ⟨[.v false [.k (.n .i64)]], [.cells [.opq 1, .k .b, .k .b, .k (.n .i64), .k (.n .i64)], .no]⟩
noncomputable def T_step (x0 : Bool) (x1 : Bool) (x2 : Int) (x3 : Int) : Tr (List At) :=
 .br 7 (x1)
 (.br 13 (x2 == (0 : Int))
 (.br 20 (Bool.true)
 (.ok [(.i ((4 : Int))), (.b (Bool.true)), (.b (x1)), (.i (x2)), (.i (x3))])
 (.br 24 (x1)
 (.ok [(.i ((0 : Int))), (.b (Bool.true)), (.b (x1)), (.i (Go.IntKind.wrap Go.IntKind.i64 (x2 - (1 : Int)))), (.i (Go.IntKind.wrap Go.IntKind.i64 (x3 + (1 : Int))))])
 (.ok [(.i ((0 : Int))), (.b (Bool.true)), (.b (x1)), (.i (x2)), (.i (Go.IntKind.wrap Go.IntKind.i64 (x3 + (1 : Int))))])))
 (.br 20 (x0)
 (.ok [(.i ((4 : Int))), (.b (x0)), (.b (x1)), (.i (x2)), (.i (x3))])
 (.br 24 (x1)
 (.ok [(.i ((0 : Int))), (.b (x0)), (.b (x1)), (.i (Go.IntKind.wrap Go.IntKind.i64 (x2 - (1 : Int)))), (.i (Go.IntKind.wrap Go.IntKind.i64 (x3 + (1 : Int))))])
 (.ok [(.i ((0 : Int))), (.b (x0)), (.b (x1)), (.i (x2)), (.i (Go.IntKind.wrap Go.IntKind.i64 (x3 + (1 : Int))))]))))
 (.br 20 (x0)
 (.ok [(.i ((4 : Int))), (.b (x0)), (.b (x1)), (.i (x2)), (.i (x3))])
 (.br 24 (x1)
 (.ok [(.i ((0 : Int))), (.b (x0)), (.b (x1)), (.i (Go.IntKind.wrap Go.IntKind.i64 (x2 - (1 : Int)))), (.i (Go.IntKind.wrap Go.IntKind.i64 (x3 + (1 : Int))))])
 (.ok [(.i ((0 : Int))), (.b (x0)), (.b (x1)), (.i (x2)), (.i (Go.IntKind.wrap Go.IntKind.i64 (x3 + (1 : Int))))])))
noncomputable def y_step : Nat → Option Nat := (syOf3 [7, 13, 20, 24] [] [])
noncomputable def TL_step (l : List At) : Tr (List At) := T_step (aB l 0) (aB l 1) (aI l 2) (aI l 3)
theorem e_step (l : List At) : (call Try.prog Γ_kind y_step noLoops 100 Try.f51 (mkV ish_step l) (mkH ish_step l)).bind (leafO 2 osh_step) = TL_step l := by kernel_rfl
noncomputable def F_step : List At → Tr (List At) := TL_step
theorem s_step : SpecF Try.prog 51 (.eff (locF ish_step osh_step F_step)) :=
  spec_loc (sy := y_step) (fuel := 100) (Lp := noLoops) o_kind mixed ⟨Try.func51, by kernel_rfl, by kernel_rfl⟩ ish_step osh_step (noLoops_ok _) (hT_ways e_step)
noncomputable def Γ_step : Specs := upd Γ_kind 51 (.eff (locF ish_step osh_step F_step))
theorem o_step : SpecOK Try.prog Γ_step := SpecOK.upd o_kind s_step

/-! ### at -/

noncomputable def ish_at : FSh := ⟨[.v false [.p 0 0], .v false [.k (.n .i64)]], [.roc [.sw 1 25, .k .b, .k .b, .k (.n .i64), .k (.n .i64)], .nrows [.n .u64, .n .u64, .n .u64, .n .u64, .n .u64, .n .u64, .n .u64, .n .u64, .n .u64, .n .u64, .n .u64, .n .u64, .n .u64, .n .u64, .n .u64, .n .u64, .n .i64, .n .i64, .n .i64, .n .i64, .n .i64, .n .i64, .n .i64, .n .i64, .n .i64] 16 [.n .i64, .n .u64] 2 false false, .no]⟩
noncomputable def oshs_at : List FSh := [⟨[.v false [.pr 1 25 0]], [.no, .no, .no]⟩, ⟨[.v false [.pnil]], [.no, .no, .no]⟩]
noncomputable def T_at (x0 : Int) (x1 : Bool) (x2 : Bool) (x3 : Int) (x4 : Int) (n5 : Nat) (g5 : Nat → Nat → Int) (h5 : Nat → Nat → Int) : Tr (Nat × List At) :=
 .br 7 (Decidable.decide (x0 < (0 : Int)))
 (.ok ((1 : Nat), []))
 (.br 15 (Decidable.decide (x0 ≥ (↑n5 : Int)))
 (.ok ((1 : Nat), []))
 (.br 21 (Go.AM.within x0 n5)
 (.ok ((0 : Nat), [(.n (Int.toNat x0))]))
 (.no)))
noncomputable def y_at : Nat → Option Nat := (syOf3 [7, 15, 21] [] [])
noncomputable def TL_at (l : List At) : Tr (Nat × List At) := T_at (aI l 0) (aB l 1) (aB l 2) (aI l 3) (aI l 4) (aRn l 5) (aRg l 5) (aMh l 5 16 2)
theorem e_at (l : List At) : (call Try.prog Γ_step y_at noLoops 100 Try.f50 (mkV ish_at l) (mkH ish_at l)).bind (leafOs 3 0 oshs_at) = TL_at l := by kernel_rfl
noncomputable def F_at : List At → Tr (Nat × List At) := TL_at
theorem s_at : SpecF Try.prog 50 (.eff (locFs ish_at oshs_at F_at)) :=
  spec_locs (sy := y_at) (fuel := 100) (Lp := noLoops) o_step mixed ⟨Try.func50, by kernel_rfl, by kernel_rfl⟩ ish_at oshs_at (noLoops_ok _) (hT_waysS e_at)
noncomputable def Γ_at : Specs := upd Γ_step 50 (.eff (locFs ish_at oshs_at F_at))
theorem o_at : SpecOK Try.prog Γ_at := SpecOK.upd o_step s_at

end Go.Proofs.Ythpcjcdiaifoiaa.G
end

/-
  A memory's lines, in plain words: rows of 25 numbers (8 now, 8 sure, how many stores are not sure, 8 flushed), and the stores.
-/
section
namespace Go.Proofs.Ythpcjcdiaifoiaa.G
open Go Go.AM Go.Proofs

/-- 'm' stores from the 'a'-th on, done to words. -/
def apF (s hr : Nat → Int) : (a m : Nat) → Nat → Int
  | _, 0 => s
  | a, m + 1 => apF (fun w => if w = (hr (a * 2)).toNat then hr (a * 2 + 1) else s w) hr (a + 1) m

theorem apF_succ {hr : Nat → Int} : ∀ (m a : Nat) (s : Nat → Int), apF s hr a (m + 1) = fun w => if w = (hr ((a + m) * 2)).toNat then hr ((a + m) * 2 + 1) else apF s hr a m w
  | 0, a, s => rfl
  | m + 1, a, s => by
    rw [apF, apF_succ m (a + 1), show a + 1 + m = a + (m + 1) by omega]
    rfl

theorem apF_congr {s s' hr hr' : Nat → Int} (hs : ∀ w, s w = s' w) : ∀ (m a : Nat), (∀ k, a ≤ k → k < a + m → hr (k * 2) = hr' (k * 2) ∧ hr (k * 2 + 1) = hr' (k * 2 + 1)) → apF s hr a m = apF s' hr' a m := by
  intro m
  induction m generalizing s s' with
  | zero => intro a _; exact funext hs
  | succ m ih =>
    intro a h
    obtain ⟨h1, h2⟩ := h a (Nat.le_refl _) (by omega)
    rw [apF, apF]
    exact ih (fun w => by rw [h1, h2, hs]) (a + 1) (fun k h3 h4 => h k (by omega) (by omega))

theorem apF_add {hr : Nat → Int} : ∀ (m k a : Nat) (s : Nat → Int), apF s hr a (m + k) = apF (apF s hr a m) hr (a + m) k
  | 0, k, a, s => by rw [Nat.zero_add]; rfl
  | m + 1, k, a, s => by
    rw [show m + 1 + k = (m + k) + 1 by omega, apF, apF_add m k (a + 1), apF, show a + 1 + m = a + (m + 1) by omega]

theorem apF_shift {hr : Nat → Int} (d : Nat) : ∀ (m a : Nat) (s : Nat → Int), apF s (fun k => hr (k + 2 * d)) a m = apF s hr (a + d) m
  | 0, _, _ => rfl
  | m + 1, a, s => by
    rw [apF, apF, apF_shift d m (a + 1), show a * 2 + 2 * d = (a + d) * 2 by omega, show a * 2 + 1 + 2 * d = (a + d) * 2 + 1 by omega, show a + 1 + d = a + d + 1 by omega]

/-- Another row. -/
def updR {α : Type} (g : Nat → α) (i : Nat) (r : α) : Nat → α := fun i' => if i' = i then r else g i'
theorem updR_self {α : Type} {g : Nat → α} {i : Nat} {r : α} : updR g i r i = r := if_pos rfl
theorem updR_ne {α : Type} {g : Nat → α} {i j : Nat} {r : α} (h : j ≠ i) : updR g i r j = g j := if_neg h
theorem updG_row (g : Nat → Nat → Int) (i c : Nat) (x : Int) : updG g i c x = updR g i (fun c' => if c' = c then x else g i c') := by
  funext i' c'
  unfold updG updR
  by_cases h : i' = i
  · subst h; rw [if_pos rfl, if_pos rfl]
  · rw [if_neg h, if_neg h]; split <;> rfl
theorem updR_updR {α : Type} {g : Nat → α} {i : Nat} {r r' : α} : updR (updR g i r) i r' = updR g i r' := by
  funext j; unfold updR; split <;> rfl
theorem updR_id {α : Type} {g : Nat → α} {i : Nat} : updR g i (g i) = g := by
  funext j; unfold updR; split
  · rename_i h; rw [h]
  · rfl

/-- A row with other sure words. -/
def putS (r s : Nat → Int) : Nat → Int := fun c => if 8 ≤ c ∧ c < 16 then s (c - 8) else r c
/-- The sure words. -/
def sur (r : Nat → Int) : Nat → Int := fun w => r (8 + w)

/-- A row whose first 'n' stores became sure; its stores. -/
def rowS (r hr : Nat → Int) (n : Nat) : Nat → Int := fun c =>
  if c = 16 then r 16 - n else if 17 ≤ c ∧ c < 25 then (if r c - n > 0 then r c - n else 0) else putS r (apF (sur r) hr 0 n) c
def hS (hr : Nat → Int) (n : Nat) : Nat → Int := fun k => hr (k + 2 * n)

/-- A row that may be. -/
def RowOk (r hr : Nat → Int) : Prop := 0 ≤ r 16 ∧ r 16 ≤ 1000000 ∧ (∀ c, 17 ≤ c → c < 25 → 0 ≤ r c ∧ r c ≤ r 16) ∧ ∀ k : Nat, (k : Int) < r 16 → 0 ≤ hr (k * 2) ∧ hr (k * 2) < 8

theorem rowOk_mk {r hr : Nat → Int} {n : Nat} (h : RowOk r hr) (hn : (n : Int) ≤ r 16) : RowOk (rowS r hr n) (hS hr n) := by
  obtain ⟨h1, h2, h3, h4⟩ := h
  have e : rowS r hr n 16 = r 16 - n := by unfold rowS; rw [if_pos rfl]
  refine ⟨by omega, by omega, fun c h5 h6 => ?_, fun k hk => ?_⟩
  · rw [e]
    have := h3 c h5 h6
    unfold rowS
    rw [if_neg (by omega), if_pos ⟨h5, h6⟩]
    split <;> omega
  · rw [e] at hk
    unfold hS
    rw [show k * 2 + 2 * n = (k + n) * 2 by omega]
    exact h4 (k + n) (by omega)

noncomputable def pdec (p : Prop) : Bool := @decide p (Classical.propDecidable p)
theorem of_pdec {p : Prop} (h : pdec p = true) : p := by unfold pdec at h; exact @of_decide_eq_true p (Classical.propDecidable p) h
theorem pdec_yes {p : Prop} (h : p) : pdec p = true := by unfold pdec; exact @decide_eq_true p (Classical.propDecidable p) h
theorem wrap_i64 {x : Int} (h1 : -9223372036854775808 ≤ x) (h2 : x ≤ 9223372036854775807) : IntKind.i64.wrap x = x := by rw [IntKind.wrap_i64]; omega
theorem atEq_q {n n' c0 wd : Nat} {g g' h h' : Nat → Nat → Int} (hn : n = n') (hg : ∀ i, i < n → ∀ c, g i c = g' i c) (hh : ∀ i, i < n → ∀ k, k < (g i c0).toNat * wd → h i k = h' i k) : AtEq (.q n g c0 wd h) (.q n' g' c0 wd h') := ⟨hn, rfl, rfl, hg, hh⟩
theorem atEq_qe {n c0 wd : Nat} {g g' h h' : Nat → Nat → Int} (hg : g = g') (hh : h = h') : AtEq (.q n g c0 wd h) (.q n g' c0 wd h') := by subst hg; subst hh; exact AtEq.refl _
end Go.Proofs.Ythpcjcdiaifoiaa.G
end

/-
  A step of the memory, in plain words.
-/
section
namespace Go.Proofs.Ythpcjcdiaifoiaa.G
open Go Go.AM Go.Proofs

/-- Is the power off when a step is to be done? -/
def offB (off burns : Bool) (left : Int) : Bool := off || (burns && (left == 0))
def leftI (off burns : Bool) (left : Int) : Int := bif (!(offB off burns left)) && burns then left - 1 else left
def stepsI (off burns : Bool) (left steps : Int) : Int := bif offB off burns left then steps else steps + 1
def codeI (off burns : Bool) (left : Int) : Int := bif offB off burns left then 4 else 0
def StOk (left steps : Int) : Prop := 0 ≤ left ∧ left ≤ 9223372036854775807 ∧ 0 ≤ steps ∧ steps ≤ 1000000000

noncomputable def F2_step (l : List At) : Tr (List At) := .br 0 (pdec (aB l 1 = true → 0 ≤ aI l 2 ∧ aI l 2 ≤ 9223372036854775807)) (.br 0 (pdec (0 ≤ aI l 3 ∧ aI l 3 ≤ 1000000000))
  (.ok [.i (codeI (aB l 0) (aB l 1) (aI l 2)), .b (offB (aB l 0) (aB l 1) (aI l 2)), .b (aB l 1), .i (leftI (aB l 0) (aB l 1) (aI l 2)), .i (stepsI (aB l 0) (aB l 1) (aI l 2) (aI l 3))]) .no) .no

theorem t_step (x0 x1 : Bool) (x2 x3 : Int) (h1 : x1 = true → 0 ≤ x2 ∧ x2 ≤ 9223372036854775807) (h3 : 0 ≤ x3 ∧ x3 ≤ 1000000000) :
    (T_step x0 x1 x2 x3).sat fun r => AtsEq r [.i (codeI x0 x1 x2), .b (offB x0 x1 x2), .b x1, .i (leftI x0 x1 x2), .i (stepsI x0 x1 x2 x3)] := by
  have w3 : IntKind.i64.wrap (x3 + 1) = x3 + 1 := wrap_i64 (by omega) (by omega)
  unfold T_step codeI leftI stepsI offB
  rw [w3]
  cases x1 with
  | false =>
    refine brF rfl ?_
    cases x0 with
    | false => exact brF rfl (brF rfl (Tr.sat_ok.2 (AtsEq.refl _)))
    | true => exact brT rfl (Tr.sat_ok.2 (AtsEq.refl _))
  | true =>
    obtain ⟨a, b⟩ := h1 rfl
    refine brT rfl ?_
    by_cases h : x2 = 0
    · subst h
      refine brT rfl (brT rfl (Tr.sat_ok.2 ?_))
      cases x0 <;> exact AtsEq.refl _
    · have hb : (x2 == 0) = false := by simpa using h
      rw [hb, wrap_i64 (x := x2 - 1) (by omega) (by omega)]
      refine brF rfl ?_
      cases x0 with
      | false => exact brF rfl (brT rfl (Tr.sat_ok.2 (AtsEq.refl _)))
      | true => exact brT rfl (Tr.sat_ok.2 (AtsEq.refl _))

theorem s2_step : SpecF Try.prog 51 (.eff (locF ish_step osh_step F2_step)) :=
  spec_loc (sy := y_step) (fuel := 100) (Lp := noLoops) o_kind mixed ⟨Try.func51, by kernel_rfl, by kernel_rfl⟩ ish_step osh_step (noLoops_ok _) (hT_of e_step fun l r h => by
    obtain ⟨h1, h⟩ := guard_val h
    obtain ⟨h3, h⟩ := guard_val h
    have := val_ok h
    subst this
    exact t_step _ _ _ _ (of_pdec h1) (of_pdec h3))
noncomputable def Γ_S1 : Specs := upd Γ_at 51 (.eff (locF ish_step osh_step F2_step))
theorem o_S1 : SpecOK Try.prog Γ_S1 := SpecOK.upd o_at s2_step
end Go.Proofs.Ythpcjcdiaifoiaa.G
end

/-
  A copy of a slice: nil of nil, else a new row.
-/
section
namespace Go.Proofs.Ythpcjcdiaifoiaa.G
open Go Go.AM Go.Proofs

theorem appG_zero {g0 src : Nat → Nat → Int} : appG g0 0 src = src := by funext i c; simp [appG]

def ish_cl : FSh := ⟨[.v false [.vw 0 2]], [.rows [.n .i64, .n .u64] false]⟩
def osh_cl : FSh := ⟨[.v false [.sw 1 2]], [.no, .rows [.n .i64, .n .u64] true]⟩
def F_cl (l : List At) : Tr (List At) := .br 0 (decide (aRn l 0 ≤ 1073741824)) (.ok [.r (aRn l 0) (aRg l 0)]) .no
theorem eZ_cl (l : List At) : (call Try.prog Γ_S1 (syOf3 [7] [] []) noLoops 100 Try.f65 [.v (.s (.slz 0 2 0 (aRn l 0)))] (mkH ish_cl l)).bind (leafO 1 osh_cl) =
    .br 7 (decide (0 + aRn l 0 ≤ 1073741824)) (.ok [.r (0 + aRn l 0) (appG (fun _ _ => 0) 0 fun j c => aRg l 0 (0 + j) c)]) .no := by kernel_rfl
theorem eN_cl (l : List At) : (call Try.prog Γ_S1 (syOf3 [7] [] []) noLoops 100 Try.f65 [.v (.s .slnil)] (mkH ish_cl l)).bind (leafO 1 osh_cl) = .ok [.r 0 fun _ _ => 0] := by kernel_rfl
theorem s_cl : SpecF Try.prog 65 (.eff (locF ish_cl osh_cl F_cl)) := by
  refine spec_fork (sy := syOf3 [7] [] []) (sy' := syOf3 [7] [] []) (fuel := 100) (Lp := noLoops) o_S1 mixed ⟨Try.func65, by kernel_rfl, by kernel_rfl⟩ 2 [.n .i64, .n .u64] osh_cl (noLoops_ok _) (fun l r h => ?_) (fun l r h h0 => ?_)
  · obtain ⟨hc, h⟩ := guard_val h
    have hr := val_ok h
    subst hr
    refine ⟨_, by rw [show mkH ⟨[.v false [.vw 0 2]], [.rows [.n .i64, .n .u64] false]⟩ l = mkH ish_cl l from rfl, eZ_cl l]; exact br_t (by rw [Nat.zero_add]; exact hc), ?_⟩
    exact atsEq_cons (atEq_r (Nat.zero_add _) (fun i _ c => by rw [appG_zero, Nat.zero_add])) atsEq_nil
  · obtain ⟨hc, h⟩ := guard_val h
    have hr := val_ok h
    subst hr
    refine ⟨_, by rw [show mkH ⟨[.v false [.vw 0 2]], [.rows [.n .i64, .n .u64] false]⟩ l = mkH ish_cl l from rfl, eN_cl l]; rfl, ?_⟩
    exact atsEq_cons (atEq_r h0.symm (fun i hi c => by omega)) atsEq_nil
noncomputable def Γ_cl : Specs := upd Γ_S1 65 (.eff (locF ish_cl osh_cl F_cl))
theorem o_cl : SpecOK Try.prog Γ_cl := SpecOK.upd o_S1 s_cl
end Go.Proofs.Ythpcjcdiaifoiaa.G
end

/-
  What functions of the seat compute, printed by a program from the explorer.
-/
section
namespace Go.Proofs.Ythpcjcdiaifoiaa.G
open Go Go.AM Go.Proofs
/-! ### the loop at 1 of mkS -/

noncomputable def lsh_mkS_1 : FSh := ⟨[.v false [.pr 0 25 0], .v false [.k (.n .i64)], .any, .any, .any, .any, .any, .any, .any, .any, .any, .any, .v false [.ms 0 1 2], .v false [.k (.n .i64)], .v false [.k (.n .i64)], .any, .any, .any, .any, .any, .any, .any, .any, .any, .any, .any, .any, .any, .any, .any, .any, .any, .any, .any, .any, .any, .any, .any, .any, .any, .any, .any, .any, .any, .any, .any, .any, .any, .any, .any, .any, .any, .any, .any, .any], [.nrows [.n .u64, .n .u64, .n .u64, .n .u64, .n .u64, .n .u64, .n .u64, .n .u64, .n .u64, .n .u64, .n .u64, .n .u64, .n .u64, .n .u64, .n .u64, .n .u64, .n .i64, .n .i64, .n .i64, .n .i64, .n .i64, .n .i64, .n .i64, .n .i64, .n .i64] 16 [.n .i64, .n .u64] 1 false true, .no]⟩
noncomputable def xsh_mkS_1_0 : FSh := ⟨[.v false [.pr 0 25 0], .v false [.k (.n .i64)], .any, .any, .any, .any, .any, .any, .any, .any, .any, .any, .any, .any, .any, .any, .any, .any, .any, .any, .any, .any, .any, .any, .any, .any, .any, .any, .any, .any, .any, .any, .any, .any, .any, .any, .any, .any, .any, .any, .any, .any, .any, .any, .any, .any, .any, .any, .any, .any, .any, .any, .any, .any, .any], [.nrows [.n .u64, .n .u64, .n .u64, .n .u64, .n .u64, .n .u64, .n .u64, .n .u64, .n .u64, .n .u64, .n .u64, .n .u64, .n .u64, .n .u64, .n .u64, .n .u64, .n .i64, .n .i64, .n .i64, .n .i64, .n .i64, .n .i64, .n .i64, .n .i64, .n .i64] 16 [.n .i64, .n .u64] 1 false true, .no]⟩
noncomputable def xs_mkS_1 : Exs := fun e => match e with
  | .normal => some lsh_mkS_1
  | .exit n => (match Nat.beq n 0 with | true => some xsh_mkS_1_0 | false => none)
  | .ret => none
noncomputable def B_mkS_1 (x0 : Nat) (x1 : Int) (x2 : Nat) (x3 : Nat) (x4 : Nat) (x5 : Int) (x6 : Int) (n7 : Nat) (g7 : Nat → Nat → Int) (h7 : Nat → Nat → Int) : Tr (Ex × List At) :=
 .br 15 (Decidable.decide (x6 < x5))
 (.br 16 (Go.AM.within x6 x4)
 (.br 200025 (Go.AM.within (h7 x2 ((x3 + Int.toNat x6) * (2 : Nat) + (0 : Nat))) (8 : Nat))
 (.ok (.normal, [(.n (x0)), (.i (x1)), (.n (x2)), (.n (x3)), (.n (x4)), (.i (x5)), (.i (Go.IntKind.wrap Go.IntKind.i64 (x6 + (1 : Int)))), (.q (n7) (Go.AM.updG g7 x0 ((8 : Nat) + Int.toNat (h7 x2 ((x3 + Int.toNat x6) * (2 : Nat) + (0 : Nat))) * (1 : Nat)) (h7 x2 ((x3 + Int.toNat x6) * (2 : Nat) + (1 : Nat)))) ((16 : Nat)) ((2 : Nat)) (h7))]))
 (.no))
 (.no))
 (.ok (.exit 0, [(.n (x0)), (.i (x1)), (.q (n7) (g7) ((16 : Nat)) ((2 : Nat)) (h7))]))
noncomputable def y_mkS_1 : Nat → Option Nat := (syOf3 [15, 16] [] [25])
noncomputable def BL_mkS_1 (l : List At) : Tr (Ex × List At) := B_mkS_1 (aN l 0) (aI l 1) (aN l 2) (aN l 3) (aN l 4) (aI l 5) (aI l 6) (aRn l 7) (aRg l 7) (aMh l 7 16 2)
theorem eB_mkS_1 (l : List At) : (exec Try.prog Γ_cl y_mkS_1 noLoops 100 (loopAt Try.f47 1) ⟨mkV lsh_mkS_1 l, mkH lsh_mkS_1 l⟩).bind (leafL 2 xs_mkS_1) = BL_mkS_1 l := by kernel_rfl
/- by hand: O_mkS_1 (x0 : Nat) (x1 : Int) (x2 : Nat) (x3 : Nat) (x4 : Nat) (x5 : Int) (x6 : Int) (n7 : Nat) (g7 : Nat → Nat → Int) (h7 : Nat → Nat → Int) : Tr (Ex × List At); OL_mkS_1 (l) := O_mkS_1 (aN l 0) (aI l 1) (aN l 2) (aN l 3) (aN l 4) (aI l 5) (aI l 6) (aRn l 7) (aRg l 7) (aMh l 7 16 2); μ_mkS_1 : List At → Nat; rd_mkS_1 : ∀ l r, (OL_mkS_1 l).val = some r → RoundA BL_mkS_1 OL_mkS_1 μ_mkS_1 l r -/

end Go.Proofs.Ythpcjcdiaifoiaa.G
end

/-
  The first loop of makeSure: the stores become sure.
-/
section
namespace Go.Proofs.Ythpcjcdiaifoiaa.G
open Go Go.AM Go.Proofs

def pre1 (x2 x3 x4 : Nat) (x5 x6 : Int) (h7 : Nat → Nat → Int) : Prop :=
  0 ≤ x6 ∧ x6 ≤ x5 ∧ x5 = x4 ∧ x5 ≤ 1000000 ∧ ∀ k : Nat, x6 ≤ k → (k : Int) < x5 → 0 ≤ h7 x2 ((x3 + k) * 2) ∧ h7 x2 ((x3 + k) * 2) < 8

noncomputable def O_mkS_1 (x0 : Nat) (x1 : Int) (x2 x3 x4 : Nat) (x5 x6 : Int) (n7 : Nat) (g7 h7 : Nat → Nat → Int) : Tr (Ex × List At) :=
  .br 0 (pdec (pre1 x2 x3 x4 x5 x6 h7)) (.ok (.exit 0, [.n x0, .i x1, .q n7 (updR g7 x0 (putS (g7 x0) (apF (sur (g7 x0)) (h7 x2) (x3 + x6.toNat) (x5 - x6).toNat))) 16 2 h7])) .no
noncomputable def OL_mkS_1 (l : List At) : Tr (Ex × List At) := O_mkS_1 (aN l 0) (aI l 1) (aN l 2) (aN l 3) (aN l 4) (aI l 5) (aI l 6) (aRn l 7) (aRg l 7) (aMh l 7 16 2)
def μ_mkS_1 (l : List At) : Nat := (aI l 5 - aI l 6).toNat

theorem putS_sur (r : Nat → Int) : putS r (sur r) = r := by
  funext c; unfold putS sur
  split
  · rw [show 8 + (c - 8) = c by omega]
  · rfl

theorem rd_mkS_1 : ∀ l r, (OL_mkS_1 l).val = some r → RoundS BL_mkS_1 OL_mkS_1 μ_mkS_1 l r := by
  intro l r h
  obtain ⟨hc, h⟩ := guard_val h
  obtain ⟨c0, c1, c2, c3, c4⟩ := of_pdec hc
  have hr := val_ok h
  unfold RoundS BL_mkS_1 B_mkS_1
  generalize hx0 : aN l 0 = x0 at *
  generalize hx2 : aN l 2 = x2 at *
  generalize hx3 : aN l 3 = x3 at *
  generalize hx4 : aN l 4 = x4 at *
  generalize hx5 : aI l 5 = x5 at *
  generalize hx6 : aI l 6 = x6 at *
  generalize hg : aRg l 7 = g at *
  generalize hh : aMh l 7 16 2 = hm at *
  refine brD (fun h1 => brW (fun _ => ?_) (fun hh => by exfalso; omega)) (fun h1 => ?_)
  · obtain ⟨w0, w1⟩ := c4 x6.toNat (by omega) (by omega)
    refine brT (by simp [within]; omega) ?_
    have hw : IntKind.i64.wrap (x6 + 1) = x6 + 1 := wrap_i64 (by omega) (by omega)
    rw [hw]
    have hq : pre1 x2 x3 x4 x5 (x6 + 1) hm := ⟨by omega, by omega, c2, c3, fun k hk1 hk2 => c4 k (by omega) hk2⟩
    have hμ : (x5 - (x6 + 1)).toNat < μ_mkS_1 l := by unfold μ_mkS_1; rw [hx5, hx6]; omega
    have key : updR (updG g x0 (8 + Int.toNat (hm x2 ((x3 + x6.toNat) * 2 + 0)) * 1) (hm x2 ((x3 + x6.toNat) * 2 + 1))) x0 (putS (updG g x0 (8 + Int.toNat (hm x2 ((x3 + x6.toNat) * 2 + 0)) * 1) (hm x2 ((x3 + x6.toNat) * 2 + 1)) x0) (apF (sur (updG g x0 (8 + Int.toNat (hm x2 ((x3 + x6.toNat) * 2 + 0)) * 1) (hm x2 ((x3 + x6.toNat) * 2 + 1)) x0)) (hm x2) (x3 + (x6 + 1).toNat) (x5 - (x6 + 1)).toNat)) =
            updR g x0 (putS (g x0) (apF (sur (g x0)) (hm x2) (x3 + x6.toNat) (x5 - x6).toNat)) := by
          have e1 : (x5 - x6).toNat = (x5 - (x6 + 1)).toNat + 1 := by omega
          have e2 : x3 + (x6 + 1).toNat = x3 + x6.toNat + 1 := by omega
          rw [e1, apF, e2, updG_row, updR_updR, updR_self, Nat.add_zero, Nat.mul_one]
          have e3 : sur (fun c' => if c' = 8 + Int.toNat (hm x2 ((x3 + x6.toNat) * 2)) then hm x2 ((x3 + x6.toNat) * 2 + 1) else g x0 c') = fun w => if w = Int.toNat (hm x2 ((x3 + x6.toNat) * 2)) then hm x2 ((x3 + x6.toNat) * 2 + 1) else sur (g x0) w := by
            funext w
            show (if 8 + w = 8 + Int.toNat (hm x2 ((x3 + x6.toNat) * 2)) then hm x2 ((x3 + x6.toNat) * 2 + 1) else g x0 (8 + w)) = if w = Int.toNat (hm x2 ((x3 + x6.toNat) * 2)) then hm x2 ((x3 + x6.toNat) * 2 + 1) else g x0 (8 + w)
            by_cases hw : w = Int.toNat (hm x2 ((x3 + x6.toNat) * 2))
            · rw [if_pos (by omega), if_pos hw]
            · rw [if_neg (by omega), if_neg hw]
          have e4 : ∀ s, putS (fun c' => if c' = 8 + Int.toNat (hm x2 ((x3 + x6.toNat) * 2)) then hm x2 ((x3 + x6.toNat) * 2 + 1) else g x0 c') s = putS (g x0) s := by
            intro s
            funext c
            unfold putS
            by_cases hc : 8 ≤ c ∧ c < 16
            · rw [if_pos hc, if_pos hc]
            · rw [if_neg hc, if_neg hc]
              exact if_neg (by omega)
          rw [e3, e4]
    exact on_ _ r (AtsEq.refl _) hμ ((br_t (g := 0) (pdec_yes hq)).trans ((congrArg (fun q => (Tr.ok (Ex.exit 0, [At.n x0, At.i (aI l 1), At.q (aRn l 7) q 16 2 hm])).val) key).trans h)) rfl (AtsEq.refl _)
  · subst hr
    refine out_ (by simp) rfl ?_
    have : (x5 - x6).toNat = 0 := by omega
    rw [this]
    show AtsEq _ [At.n x0, At.i (aI l 1), At.q (aRn l 7) (updR g x0 (putS (g x0) (sur (g x0)))) 16 2 hm]
    rw [putS_sur, updR_id]
    exact AtsEq.refl _
end Go.Proofs.Ythpcjcdiaifoiaa.G
end

/-
  What functions of the seat compute, printed by a program from the explorer.
-/
section
namespace Go.Proofs.Ythpcjcdiaifoiaa.G
open Go Go.AM Go.Proofs
theorem f_mkS_1 : LoopF Try.prog 2 (loopAt Try.f47 1) (loopFn 2 lsh_mkS_1 xs_mkS_1 OL_mkS_1) :=
  loop_sat (sy := y_mkS_1) (fuel := 100) (Lp := noLoops) o_cl mixed (loopsOK_at (noLoops_ok _) 1) rfl eB_mkS_1 rd_mkS_1
noncomputable def Lp_mkS_1 : Loops := Loops.set noLoops 1 (loopFn 2 lsh_mkS_1 xs_mkS_1 OL_mkS_1)
theorem lk_mkS_1 : LoopsFn Try.prog 2 Lp_mkS_1 Try.f47 := loopsFn_set (noLoops_ok _) (by kernel_rfl) f_mkS_1

/-! ### the loop at 7 of mkS -/

noncomputable def lsh_mkS_7 : FSh := ⟨[.v false [.pr 0 25 0], .v false [.k (.n .i64)], .any, .any, .any, .any, .any, .any, .any, .any, .any, .any, .any, .any, .any, .any, .any, .any, .any, .any, .any, .any, .any, .any, .any, .any, .any, .any, .any, .any, .any, .any, .any, .any, .any, .any, .any, .v false [.k (.n .i64)], .any, .any, .any, .any, .any, .any, .any, .any, .any, .any, .any, .any, .any, .any, .any, .any, .any], [.nrows [.n .u64, .n .u64, .n .u64, .n .u64, .n .u64, .n .u64, .n .u64, .n .u64, .n .u64, .n .u64, .n .u64, .n .u64, .n .u64, .n .u64, .n .u64, .n .u64, .n .i64, .n .i64, .n .i64, .n .i64, .n .i64, .n .i64, .n .i64, .n .i64, .n .i64] 16 [.n .i64, .n .u64] 2 false true, .no, .no]⟩
noncomputable def xsh_mkS_7_0 : FSh := ⟨[.any, .any, .any, .any, .any, .any, .any, .any, .any, .any, .any, .any, .any, .any, .any, .any, .any, .any, .any, .any, .any, .any, .any, .any, .any, .any, .any, .any, .any, .any, .any, .any, .any, .any, .any, .any, .any, .any, .any, .any, .any, .any, .any, .any, .any, .any, .any, .any, .any, .any, .any, .any, .any, .any, .any], [.nrows [.n .u64, .n .u64, .n .u64, .n .u64, .n .u64, .n .u64, .n .u64, .n .u64, .n .u64, .n .u64, .n .u64, .n .u64, .n .u64, .n .u64, .n .u64, .n .u64, .n .i64, .n .i64, .n .i64, .n .i64, .n .i64, .n .i64, .n .i64, .n .i64, .n .i64] 16 [.n .i64, .n .u64] 2 false true, .no, .no]⟩
noncomputable def xs_mkS_7 : Exs := fun e => match e with
  | .normal => some lsh_mkS_7
  | .exit n => (match Nat.beq n 2 with | true => some xsh_mkS_7_0 | false => none)
  | .ret => none
noncomputable def B_mkS_7 (x0 : Nat) (x1 : Int) (x2 : Int) (n3 : Nat) (g3 : Nat → Nat → Int) (h3 : Nat → Nat → Int) : Tr (Ex × List At) :=
 .br 38 (Decidable.decide (x2 < (8 : Int)))
 (.br 200046 (Go.AM.within x2 (8 : Nat))
 (.br 200053 (Go.AM.within x2 (8 : Nat))
 (.ok (.normal, [(.n (x0)), (.i (x1)), (.i (Go.IntKind.wrap Go.IntKind.i64 (x2 + (1 : Int)))), (.q (n3) (Go.AM.updG g3 x0 ((17 : Nat) + Int.toNat x2 * (1 : Nat)) (if Go.IntKind.wrap Go.IntKind.i64 (g3 x0 ((17 : Nat) + Int.toNat x2 * (1 : Nat)) - x1) > (0 : Int) then Go.IntKind.wrap Go.IntKind.i64 (g3 x0 ((17 : Nat) + Int.toNat x2 * (1 : Nat)) - x1) else (0 : Int))) ((16 : Nat)) ((2 : Nat)) (h3))]))
 (.no))
 (.no))
 (.ok (.exit 2, [(.q (n3) (g3) ((16 : Nat)) ((2 : Nat)) (h3))]))
noncomputable def y_mkS_7 : Nat → Option Nat := (syOf3 [38] [] [46, 53])
noncomputable def BL_mkS_7 (l : List At) : Tr (Ex × List At) := B_mkS_7 (aN l 0) (aI l 1) (aI l 2) (aRn l 3) (aRg l 3) (aMh l 3 16 2)
theorem eB_mkS_7 (l : List At) : (exec Try.prog Γ_cl y_mkS_7 Lp_mkS_1 100 (loopAt Try.f47 7) ⟨mkV lsh_mkS_7 l, mkH lsh_mkS_7 l⟩).bind (leafL 2 xs_mkS_7) = BL_mkS_7 l := by kernel_rfl
/- by hand: O_mkS_7 (x0 : Nat) (x1 : Int) (x2 : Int) (n3 : Nat) (g3 : Nat → Nat → Int) (h3 : Nat → Nat → Int) : Tr (Ex × List At); OL_mkS_7 (l) := O_mkS_7 (aN l 0) (aI l 1) (aI l 2) (aRn l 3) (aRg l 3) (aMh l 3 16 2); μ_mkS_7 : List At → Nat; rd_mkS_7 : ∀ l r, (OL_mkS_7 l).val = some r → RoundA BL_mkS_7 OL_mkS_7 μ_mkS_7 l r -/

end Go.Proofs.Ythpcjcdiaifoiaa.G
end

/-
  The second loop of makeSure: fewer stores are flushed.
-/
section
namespace Go.Proofs.Ythpcjcdiaifoiaa.G
open Go Go.AM Go.Proofs

/-- Flushed, from the core 'a' on, by 'n' less. -/
def less (r : Nat → Int) (n : Int) (a : Nat) : Nat → Int := fun c => if 17 + a ≤ c ∧ c < 25 then (if r c - n > 0 then r c - n else 0) else r c

def pre7 (r : Nat → Int) (x1 x2 : Int) : Prop := 0 ≤ x2 ∧ x2 ≤ 8 ∧ 0 ≤ x1 ∧ x1 ≤ 1000000 ∧ ∀ c, 17 ≤ c → c < 25 → 0 ≤ r c ∧ r c ≤ 1000000

noncomputable def O_mkS_7 (x0 : Nat) (x1 x2 : Int) (n3 : Nat) (g3 h3 : Nat → Nat → Int) : Tr (Ex × List At) :=
  .br 0 (pdec (pre7 (g3 x0) x1 x2)) (.ok (.exit 2, [.q n3 (updR g3 x0 (less (g3 x0) x1 x2.toNat)) 16 2 h3])) .no
noncomputable def OL_mkS_7 (l : List At) : Tr (Ex × List At) := O_mkS_7 (aN l 0) (aI l 1) (aI l 2) (aRn l 3) (aRg l 3) (aMh l 3 16 2)
def μ_mkS_7 (l : List At) : Nat := (8 - aI l 2).toNat

theorem rd_mkS_7 : ∀ l r, (OL_mkS_7 l).val = some r → RoundS BL_mkS_7 OL_mkS_7 μ_mkS_7 l r := by
  intro l r h
  obtain ⟨hc, h⟩ := guard_val h
  obtain ⟨c0, c1, c2, c3, c4⟩ := of_pdec hc
  have hr := val_ok h
  unfold RoundS BL_mkS_7 B_mkS_7
  generalize hx0 : aN l 0 = x0 at *
  generalize hx1 : aI l 1 = x1 at *
  generalize hx2 : aI l 2 = x2 at *
  generalize hg : aRg l 3 = g at *
  generalize hh : aMh l 3 16 2 = hm at *
  refine brD (fun h1 => brW (fun _ => brW (fun _ => ?_) (fun hh => by exfalso; omega)) (fun hh => by exfalso; omega)) (fun h1 => ?_)
  · obtain ⟨k, rfl⟩ := Int.eq_ofNat_of_zero_le c0
    have hk : k < 8 := by omega
    obtain ⟨w0, w1⟩ := c4 (17 + k) (by omega) (by omega)
    rw [Int.toNat_natCast, Nat.mul_one, wrap_i64 (x := (k : Int) + 1) (by omega) (by omega), wrap_i64 (x := g x0 (17 + k) - x1) (by omega) (by omega)]
    generalize hv : (if g x0 (17 + k) - x1 > 0 then g x0 (17 + k) - x1 else 0) = v
    have hv2 : 0 ≤ v ∧ v ≤ 1000000 := by subst hv; split <;> omega
    have row : updG g x0 (17 + k) v x0 = fun c => if c = 17 + k then v else g x0 c := by rw [updG_row, updR_self]
    have hq : pre7 (updG g x0 (17 + k) v x0) x1 ((k : Int) + 1) := by
      refine ⟨by omega, by omega, c2, c3, fun c h5 h6 => ?_⟩
      rw [row]
      show 0 ≤ (if c = 17 + k then v else g x0 c) ∧ (if c = 17 + k then v else g x0 c) ≤ 1000000
      split
      · exact hv2
      · exact c4 c h5 h6
    have key : updR (updG g x0 (17 + k) v) x0 (less (updG g x0 (17 + k) v x0) x1 ((k : Int) + 1).toNat) = updR g x0 (less (g x0) x1 (k : Int).toNat) := by
      rw [updG_row, updR_updR, updR_self]
      congr 1
      funext c
      unfold less
      rw [show ((k : Int) + 1).toNat = k + 1 by omega, Int.toNat_natCast]
      by_cases h5 : 17 + (k + 1) ≤ c ∧ c < 25
      · have e : (fun c' => if c' = 17 + k then v else g x0 c') c = g x0 c := if_neg (by omega)
        rw [if_pos h5, if_pos (show 17 + k ≤ c ∧ c < 25 by omega), e]
      · rw [if_neg h5]
        by_cases h6 : c = 17 + k
        · have e : (fun c' => if c' = 17 + k then v else g x0 c') c = v := if_pos h6
          rw [e, if_pos (show 17 + k ≤ c ∧ c < 25 by omega), ← hv, h6]
        · have e : (fun c' => if c' = 17 + k then v else g x0 c') c = g x0 c := if_neg h6
          rw [e, if_neg (show ¬ (17 + k ≤ c ∧ c < 25) by omega)]
    have hμ : (8 - ((k : Int) + 1)).toNat < μ_mkS_7 l := by unfold μ_mkS_7; rw [hx2]; omega
    exact on_ _ r (AtsEq.refl _) hμ ((br_t (g := 0) (pdec_yes hq)).trans ((congrArg (fun q => (Tr.ok (Ex.exit 2, [At.q (aRn l 3) q 16 2 hm])).val) key).trans h)) rfl (AtsEq.refl _)
  · subst hr
    refine out_ (by simp) rfl ?_
    have e : less (g x0) x1 x2.toNat = g x0 := by
      funext c
      unfold less
      rw [if_neg (by omega)]
    show AtsEq _ [At.q (aRn l 3) (updR g x0 (less (g x0) x1 x2.toNat)) 16 2 hm]
    rw [e, updR_id]
    exact AtsEq.refl _
end Go.Proofs.Ythpcjcdiaifoiaa.G
end

/-
  What functions of the seat compute, printed by a program from the explorer.
-/
section
namespace Go.Proofs.Ythpcjcdiaifoiaa.G
open Go Go.AM Go.Proofs
theorem f_mkS_7 : LoopF Try.prog 2 (loopAt Try.f47 7) (loopFn 2 lsh_mkS_7 xs_mkS_7 OL_mkS_7) :=
  loop_sat (sy := y_mkS_7) (fuel := 100) (Lp := Lp_mkS_1) o_cl mixed (loopsOK_at lk_mkS_1 7) rfl eB_mkS_7 rd_mkS_7
noncomputable def Lp_mkS_7 : Loops := Loops.set Lp_mkS_1 7 (loopFn 2 lsh_mkS_7 xs_mkS_7 OL_mkS_7)
theorem lk_mkS_7 : LoopsFn Try.prog 2 Lp_mkS_7 Try.f47 := loopsFn_set lk_mkS_1 (by kernel_rfl) f_mkS_7

/-! ### mkS -/

noncomputable def ish_mkS : FSh := ⟨[.v false [.pr 0 25 0], .v false [.k (.n .i64)]], [.nrows [.n .u64, .n .u64, .n .u64, .n .u64, .n .u64, .n .u64, .n .u64, .n .u64, .n .u64, .n .u64, .n .u64, .n .u64, .n .u64, .n .u64, .n .u64, .n .u64, .n .i64, .n .i64, .n .i64, .n .i64, .n .i64, .n .i64, .n .i64, .n .i64, .n .i64] 16 [.n .i64, .n .u64] 1 false true, .no]⟩
noncomputable def osh_mkS : FSh := ⟨[.tup []], [.nrows [.n .u64, .n .u64, .n .u64, .n .u64, .n .u64, .n .u64, .n .u64, .n .u64, .n .u64, .n .u64, .n .u64, .n .u64, .n .u64, .n .u64, .n .u64, .n .u64, .n .i64, .n .i64, .n .i64, .n .i64, .n .i64, .n .i64, .n .i64, .n .i64, .n .i64] 16 [.n .i64, .n .u64] 2 false true, .no, .no]⟩
noncomputable def mkS_c0 (x0 : Nat) (x1 : Int) (g2 : Nat → Nat → Int) (h2 : Nat → Nat → Int) : Int := (↑(Int.toNat (↑(Int.toNat (Go.Proofs.Ythpcjcdiaifoiaa.G.updR g2 x0 (Go.Proofs.Ythpcjcdiaifoiaa.G.putS (g2 x0) (Go.Proofs.Ythpcjcdiaifoiaa.G.apF (Go.Proofs.Ythpcjcdiaifoiaa.G.sur (g2 x0)) (h2 x0) (0 : Nat) (Int.toNat ((↑(Int.toNat x1 - (0 : Nat)) : Int) - (0 : Int))))) x0 (16 : Nat))) : Int) - Int.toNat x1) : Int)
noncomputable def mkS_c21 (x0 : Nat) (x1 : Int) (g2 : Nat → Nat → Int) (h2 : Nat → Nat → Int) : Bool := Decidable.decide (Int.toNat (↑(Int.toNat (Go.Proofs.Ythpcjcdiaifoiaa.G.updR g2 x0 (Go.Proofs.Ythpcjcdiaifoiaa.G.putS (g2 x0) (Go.Proofs.Ythpcjcdiaifoiaa.G.apF (Go.Proofs.Ythpcjcdiaifoiaa.G.sur (g2 x0)) (h2 x0) (0 : Nat) (Int.toNat ((↑(Int.toNat x1 - (0 : Nat)) : Int) - (0 : Int))))) x0 (16 : Nat))) : Int) - Int.toNat x1 ≤ (1073741824 : Nat))
noncomputable def T_mkS (x0 : Nat) (x1 : Int) (n2 : Nat) (g2 : Nat → Nat → Int) (h2 : Nat → Nat → Int) : Tr (List At) :=
 .br 12 (Bool.true && Decidable.decide ((0 : Int) ≤ x1) && Decidable.decide (x1 ≤ (↑(Int.toNat (g2 x0 (16 : Nat))) : Int)))
 (.br 0 (Go.Proofs.Ythpcjcdiaifoiaa.G.pdec (Go.Proofs.Ythpcjcdiaifoiaa.G.pre1 x0 (0 : Nat) (Int.toNat x1 - (0 : Nat)) (↑(Int.toNat x1 - (0 : Nat)) : Int) (0 : Int) h2))
 (.br 33 (Decidable.decide ((0 : Int) ≤ x1) && Decidable.decide (x1 ≤ (↑(Int.toNat (Go.Proofs.Ythpcjcdiaifoiaa.G.updR g2 x0 (Go.Proofs.Ythpcjcdiaifoiaa.G.putS (g2 x0) (Go.Proofs.Ythpcjcdiaifoiaa.G.apF (Go.Proofs.Ythpcjcdiaifoiaa.G.sur (g2 x0)) (h2 x0) (0 : Nat) (Int.toNat ((↑(Int.toNat x1 - (0 : Nat)) : Int) - (0 : Int))))) x0 (16 : Nat))) : Int)))
 (.br 0 ((mkS_c21 x0 x1 g2 h2))
 (.br 0 (Bool.true)
 (.br 0 (Go.Proofs.Ythpcjcdiaifoiaa.G.pdec (Go.Proofs.Ythpcjcdiaifoiaa.G.pre7 (Go.AM.updG (Go.Proofs.Ythpcjcdiaifoiaa.G.updR g2 x0 (Go.Proofs.Ythpcjcdiaifoiaa.G.putS (g2 x0) (Go.Proofs.Ythpcjcdiaifoiaa.G.apF (Go.Proofs.Ythpcjcdiaifoiaa.G.sur (g2 x0)) (h2 x0) (0 : Nat) (Int.toNat ((↑(Int.toNat x1 - (0 : Nat)) : Int) - (0 : Int)))))) x0 (16 : Nat) (mkS_c0 x0 x1 g2 h2) x0) x1 (0 : Int)))
 (.ok [(.q (n2) (Go.Proofs.Ythpcjcdiaifoiaa.G.updR (Go.AM.updG (Go.Proofs.Ythpcjcdiaifoiaa.G.updR g2 x0 (Go.Proofs.Ythpcjcdiaifoiaa.G.putS (g2 x0) (Go.Proofs.Ythpcjcdiaifoiaa.G.apF (Go.Proofs.Ythpcjcdiaifoiaa.G.sur (g2 x0)) (h2 x0) (0 : Nat) (Int.toNat ((↑(Int.toNat x1 - (0 : Nat)) : Int) - (0 : Int)))))) x0 (16 : Nat) (mkS_c0 x0 x1 g2 h2)) x0 (Go.Proofs.Ythpcjcdiaifoiaa.G.less (Go.AM.updG (Go.Proofs.Ythpcjcdiaifoiaa.G.updR g2 x0 (Go.Proofs.Ythpcjcdiaifoiaa.G.putS (g2 x0) (Go.Proofs.Ythpcjcdiaifoiaa.G.apF (Go.Proofs.Ythpcjcdiaifoiaa.G.sur (g2 x0)) (h2 x0) (0 : Nat) (Int.toNat ((↑(Int.toNat x1 - (0 : Nat)) : Int) - (0 : Int)))))) x0 (16 : Nat) (mkS_c0 x0 x1 g2 h2) x0) x1 (0 : Nat))) ((16 : Nat)) ((2 : Nat)) (Go.AM.putM h2 x0 (2 : Nat) fun (j cc : Nat) => h2 x0 ((Int.toNat x1 + j) * (2 : Nat) + cc)))])
 (.no))
 (.no))
 (.no))
 (.no))
 (.no))
 (.no)
noncomputable def y_mkS : Nat → Option Nat := (syOf3 [12, 33] [] [])
noncomputable def TL_mkS (l : List At) : Tr (List At) := T_mkS (aN l 0) (aI l 1) (aRn l 2) (aRg l 2) (aMh l 2 16 2)
theorem e_mkS (l : List At) : (call Try.prog Γ_cl y_mkS Lp_mkS_7 100 Try.f47 (mkV ish_mkS l) (mkH ish_mkS l)).bind (leafO 2 osh_mkS) = TL_mkS l := by kernel_rfl
noncomputable def F_mkS : List At → Tr (List At) := TL_mkS
theorem s_mkS : SpecF Try.prog 47 (.eff (locF ish_mkS osh_mkS F_mkS)) :=
  spec_loc (sy := y_mkS) (fuel := 100) (Lp := Lp_mkS_7) o_cl mixed ⟨Try.func47, by kernel_rfl, by kernel_rfl⟩ ish_mkS osh_mkS lk_mkS_7 (hT_ways e_mkS)
noncomputable def Γ_mkS : Specs := upd Γ_cl 47 (.eff (locF ish_mkS osh_mkS F_mkS))
theorem o_mkS : SpecOK Try.prog Γ_mkS := SpecOK.upd o_cl s_mkS

end Go.Proofs.Ythpcjcdiaifoiaa.G
end

/-
  makeSure, in plain words.
-/
section
namespace Go.Proofs.Ythpcjcdiaifoiaa.G
open Go Go.AM Go.Proofs

noncomputable def F2_mkS (l : List At) : Tr (List At) := .br 0 (pdec (RowOk (aRg l 2 (aN l 0)) (aMh l 2 16 2 (aN l 0)) ∧ 0 ≤ aI l 1 ∧ aI l 1 ≤ aRg l 2 (aN l 0) 16))
  (.ok [.q (aRn l 2) (updR (aRg l 2) (aN l 0) (rowS (aRg l 2 (aN l 0)) (aMh l 2 16 2 (aN l 0)) (aI l 1).toNat)) 16 2 (updR (aMh l 2 16 2) (aN l 0) (hS (aMh l 2 16 2 (aN l 0)) (aI l 1).toNat))]) .no

theorem putS_out (r s : Nat → Int) {c : Nat} (h : ¬ (8 ≤ c ∧ c < 16)) : putS r s c = r c := if_neg h

theorem t_mkS (x0 : Nat) (x1 : Int) (n2 : Nat) (g2 h2 : Nat → Nat → Int) (hr : RowOk (g2 x0) (h2 x0)) (h0 : 0 ≤ x1) (h1 : x1 ≤ g2 x0 16) :
    (T_mkS x0 x1 n2 g2 h2).sat fun r => AtsEq r [.q n2 (updR g2 x0 (rowS (g2 x0) (h2 x0) x1.toNat)) 16 2 (updR h2 x0 (hS (h2 x0) x1.toNat))] := by
  obtain ⟨a1, a2, a3, a4⟩ := hr
  obtain ⟨n, rfl⟩ := Int.eq_ofNat_of_zero_le h0
  unfold T_mkS mkS_c21 mkS_c0
  simp only [Int.toNat_natCast, Nat.sub_zero, Int.sub_zero, updR_self, putS_out (g2 x0) _ (c := 16) (by omega)]
  refine brT (by simp; omega) (brT (pdec_yes ⟨by omega, by omega, rfl, by omega, fun k _ hk => by rw [Nat.zero_add]; exact a4 k (by omega)⟩) (brT (by simp; omega) (brT (decide_eq_true (by omega)) (brT rfl ?_))))
  have e16 : (((g2 x0 16).toNat - n : Nat) : Int) = g2 x0 16 - n := by omega
  rw [e16, updG_row, updR_updR, updR_self, updR_updR, updR_self]
  refine brT (pdec_yes ⟨by omega, by omega, by omega, by omega, fun c h5 h6 => ?_⟩) (Tr.sat_ok.2 (atsEq_cons (atEq_qe ?_ ?_) atsEq_nil))
  · have e : (fun c' => if c' = 16 then g2 x0 16 - n else putS (g2 x0) (apF (sur (g2 x0)) (h2 x0) 0 n) c') c = g2 x0 c := by
      show (if c = 16 then g2 x0 16 - (n : Int) else putS (g2 x0) (apF (sur (g2 x0)) (h2 x0) 0 n) c) = g2 x0 c
      rw [if_neg (by omega), putS_out _ _ (by omega)]
    rw [e]
    have := a3 c h5 h6
    omega
  · congr 1
    funext c
    unfold less rowS
    show (if 17 + 0 ≤ c ∧ c < 25 then (if (if c = 16 then g2 x0 16 - (n : Int) else putS (g2 x0) (apF (sur (g2 x0)) (h2 x0) 0 n) c) - (n : Int) > 0 then (if c = 16 then g2 x0 16 - (n : Int) else putS (g2 x0) (apF (sur (g2 x0)) (h2 x0) 0 n) c) - (n : Int) else 0) else (if c = 16 then g2 x0 16 - (n : Int) else putS (g2 x0) (apF (sur (g2 x0)) (h2 x0) 0 n) c)) = _
    rw [Nat.add_zero]
    by_cases h5 : c = 16
    · rw [if_neg (show ¬ (17 ≤ c ∧ c < 25) by omega), if_pos h5, if_pos h5]
    · rw [if_neg h5, if_neg h5]
      by_cases h6 : 17 ≤ c ∧ c < 25
      · rw [if_pos h6, if_pos h6, putS_out _ _ (by omega)]
      · rw [if_neg h6, if_neg h6]
  · funext i k
    unfold putM updR hS
    by_cases h5 : i = x0
    · rw [if_pos h5, if_pos h5]
      exact congrArg (h2 x0) (by omega)
    · rw [if_neg h5, if_neg h5]

theorem s2_mkS : SpecF Try.prog 47 (.eff (locF ish_mkS osh_mkS F2_mkS)) :=
  spec_loc (sy := y_mkS) (fuel := 100) (Lp := Lp_mkS_7) o_cl mixed ⟨Try.func47, by kernel_rfl, by kernel_rfl⟩ ish_mkS osh_mkS lk_mkS_7 (hT_of e_mkS fun l r h => by
    obtain ⟨hc, h⟩ := guard_val h
    obtain ⟨h1, h2, h3⟩ := of_pdec hc
    have := val_ok h
    subst this
    exact t_mkS _ _ _ _ _ h1 h2 h3)
noncomputable def Γ_S4 : Specs := upd Γ_cl 47 (.eff (locF ish_mkS osh_mkS F2_mkS))
theorem o_S4 : SpecOK Try.prog Γ_S4 := SpecOK.upd o_cl s2_mkS
end Go.Proofs.Ythpcjcdiaifoiaa.G
end

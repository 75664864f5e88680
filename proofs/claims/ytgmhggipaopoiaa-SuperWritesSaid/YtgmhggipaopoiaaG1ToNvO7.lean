/-
  What functions of the seat compute, printed by a program from the explorer.
-/
import Derived.Test.YtgmhggipaopoiaaCrc1ToCrc2
import Derived.KernelRfl
import Derived.Test.YtgmhggipaopoiaaAn8ToAnR
section
namespace Go.Proofs.Ytgmhggipaopoiaa.G
open Go Go.AM Go.Proofs
/-! ### within_ -/

def ish_within_ : FSh := ⟨[.v false [.k (.n .i64)], .v false [.k (.n .i64)], .v false [.k (.n .i64)]], []⟩
def osh_within_ : FSh := ⟨[.v false [.k .b]], []⟩
def T_within_ (x0 : Int) (x1 : Int) (x2 : Int) : Tr (List At) :=
 .br 10 (decide (x0 ≥ x1))
 (.ok [(.b (decide (x0 ≤ x2)))])
 (.ok [(.b (false))])
def y_within_ : Nat → Option Nat := syOf3 [10] [] []
def TL_within_ (l : List At) : Tr (List At) := T_within_ (aI l 0) (aI l 1) (aI l 2)
theorem e_within_ (l : List At) : (call Try.prog Γ_crcGood y_within_ noLoops 100 Try.f32 (mkV ish_within_ l) (mkH ish_within_ l)).bind (leafO 0 osh_within_) = TL_within_ l := by kernel_rfl
def r_within__0 (x0 : Int) (x1 : Int) (x2 : Int) : Bool :=
  bif decide (x0 ≥ x1) then (decide (x0 ≤ x2))
  else false
def F_within_ : List At → Tr (List At) := fun l => .ok [.b (r_within__0 (aI l 0) (aI l 1) (aI l 2))]
theorem s_within_ : SpecF Try.prog 32 (.pure (locP ish_within_ osh_within_ F_within_)) :=
  spec_locP (sy := y_within_) (fuel := 100) (Lp := noLoops) o_crcGood mixed ⟨Try.func32, by kernel_rfl, by kernel_rfl⟩ ish_within_ osh_within_ rfl (noLoops_ok _) (hT_merged [.b] e_within_ (fun l => by kernel_rfl) (fun l => by kernel_rfl))
def Γ_within_ : Specs := upd Γ_crcGood 32 (.pure (locP ish_within_ osh_within_ F_within_))
theorem o_within_ : SpecOK Try.prog Γ_within_ := SpecOK.upd o_crcGood s_within_

/-! ### sLine -/

def ish_sLine : FSh := ⟨[.v true [.k (.n .i64), .k (.n .i64), .k (.n .i64), .k (.n .i64)]], []⟩
def osh_sLine : FSh := ⟨[.tup [(true, [.k (.n .u64), .k (.n .u64), .k (.n .u64), .k (.n .u64), .k (.n .u64), .k (.n .u64), .k (.n .u64), .k (.n .u64)]), (false, [.k (.n .i64)])]], []⟩
def T_sLine (x0 : Int) (x1 : Int) (x2 : Int) (x3 : Int) : Tr (List At) :=
 .br 8 (!r_within__0 x0 (1 : Int) (1099511627776 : Int))
 (.ok [(.i ((0 : Int))), (.i ((0 : Int))), (.i ((0 : Int))), (.i ((0 : Int))), (.i ((0 : Int))), (.i ((0 : Int))), (.i ((0 : Int))), (.i ((0 : Int))), (.i ((1 : Int)))])
 (.br 14 (!r_within__0 x1 (0 : Int) (1023 : Int))
 (.ok [(.i ((0 : Int))), (.i ((0 : Int))), (.i ((0 : Int))), (.i ((0 : Int))), (.i ((0 : Int))), (.i ((0 : Int))), (.i ((0 : Int))), (.i ((0 : Int))), (.i ((1 : Int)))])
 (.br 20 (!r_within__0 x2 (0 : Int) (1099511627776 : Int))
 (.ok [(.i ((0 : Int))), (.i ((0 : Int))), (.i ((0 : Int))), (.i ((0 : Int))), (.i ((0 : Int))), (.i ((0 : Int))), (.i ((0 : Int))), (.i ((0 : Int))), (.i ((1 : Int)))])
 (.br 25 (!r_within__0 x3 (1 : Int) (8 : Int))
 (.ok [(.i ((0 : Int))), (.i ((0 : Int))), (.i ((0 : Int))), (.i ((0 : Int))), (.i ((0 : Int))), (.i ((0 : Int))), (.i ((0 : Int))), (.i ((0 : Int))), (.i ((1 : Int)))])
 (.br 0 (ok_crcSeal (1526644958 : Int) (IntKind.wrap IntKind.u64 x0) (IntKind.wrap IntKind.u64 x1) (IntKind.wrap IntKind.u64 x2) (IntKind.wrap IntKind.u64 x3) (0 : Int) (0 : Int) (0 : Int))
 (.ok [(.i (r_crcSeal_0 (1526644958 : Int) (IntKind.wrap IntKind.u64 x0) (IntKind.wrap IntKind.u64 x1) (IntKind.wrap IntKind.u64 x2) (IntKind.wrap IntKind.u64 x3) (0 : Int) (0 : Int))), (.i (r_crcSeal_1 (1526644958 : Int) (IntKind.wrap IntKind.u64 x0) (IntKind.wrap IntKind.u64 x1) (IntKind.wrap IntKind.u64 x2) (IntKind.wrap IntKind.u64 x3) (0 : Int) (0 : Int))), (.i (r_crcSeal_2 (1526644958 : Int) (IntKind.wrap IntKind.u64 x0) (IntKind.wrap IntKind.u64 x1) (IntKind.wrap IntKind.u64 x2) (IntKind.wrap IntKind.u64 x3) (0 : Int) (0 : Int))), (.i (r_crcSeal_3 (1526644958 : Int) (IntKind.wrap IntKind.u64 x0) (IntKind.wrap IntKind.u64 x1) (IntKind.wrap IntKind.u64 x2) (IntKind.wrap IntKind.u64 x3) (0 : Int) (0 : Int))), (.i (r_crcSeal_4 (1526644958 : Int) (IntKind.wrap IntKind.u64 x0) (IntKind.wrap IntKind.u64 x1) (IntKind.wrap IntKind.u64 x2) (IntKind.wrap IntKind.u64 x3) (0 : Int) (0 : Int))), (.i (r_crcSeal_5 (1526644958 : Int) (IntKind.wrap IntKind.u64 x0) (IntKind.wrap IntKind.u64 x1) (IntKind.wrap IntKind.u64 x2) (IntKind.wrap IntKind.u64 x3) (0 : Int) (0 : Int))), (.i (r_crcSeal_6 (1526644958 : Int) (IntKind.wrap IntKind.u64 x0) (IntKind.wrap IntKind.u64 x1) (IntKind.wrap IntKind.u64 x2) (IntKind.wrap IntKind.u64 x3) (0 : Int) (0 : Int))), (.i (r_crcSeal_7 (1526644958 : Int) (IntKind.wrap IntKind.u64 x0) (IntKind.wrap IntKind.u64 x1) (IntKind.wrap IntKind.u64 x2) (IntKind.wrap IntKind.u64 x3) (0 : Int) (0 : Int))), (.i ((0 : Int)))])
 (.no)))))
def y_sLine : Nat → Option Nat := syOf3 [8, 14, 20, 25] [] []
def TL_sLine (l : List At) : Tr (List At) := T_sLine (aI l 0) (aI l 1) (aI l 2) (aI l 3)
theorem e_sLine (l : List At) : (call Try.prog Γ_within_ y_sLine noLoops 100 Try.f11 (mkV ish_sLine l) (mkH ish_sLine l)).bind (leafO 0 osh_sLine) = TL_sLine l := by kernel_rfl
def r_sLine_0 (x0 : Int) (x1 : Int) (x2 : Int) (x3 : Int) : Int :=
  bif !r_within__0 x0 (1 : Int) (1099511627776 : Int) then ((0 : Int))
  else bif !r_within__0 x1 (0 : Int) (1023 : Int) then ((0 : Int))
  else bif !r_within__0 x2 (0 : Int) (1099511627776 : Int) then ((0 : Int))
  else bif !r_within__0 x3 (1 : Int) (8 : Int) then ((0 : Int))
  else bif ok_crcSeal (1526644958 : Int) (IntKind.wrap IntKind.u64 x0) (IntKind.wrap IntKind.u64 x1) (IntKind.wrap IntKind.u64 x2) (IntKind.wrap IntKind.u64 x3) (0 : Int) (0 : Int) (0 : Int) then (r_crcSeal_0 (1526644958 : Int) (IntKind.wrap IntKind.u64 x0) (IntKind.wrap IntKind.u64 x1) (IntKind.wrap IntKind.u64 x2) (IntKind.wrap IntKind.u64 x3) (0 : Int) (0 : Int))
  else 0
def r_sLine_1 (x0 : Int) (x1 : Int) (x2 : Int) (x3 : Int) : Int :=
  bif !r_within__0 x0 (1 : Int) (1099511627776 : Int) then ((0 : Int))
  else bif !r_within__0 x1 (0 : Int) (1023 : Int) then ((0 : Int))
  else bif !r_within__0 x2 (0 : Int) (1099511627776 : Int) then ((0 : Int))
  else bif !r_within__0 x3 (1 : Int) (8 : Int) then ((0 : Int))
  else bif ok_crcSeal (1526644958 : Int) (IntKind.wrap IntKind.u64 x0) (IntKind.wrap IntKind.u64 x1) (IntKind.wrap IntKind.u64 x2) (IntKind.wrap IntKind.u64 x3) (0 : Int) (0 : Int) (0 : Int) then (r_crcSeal_1 (1526644958 : Int) (IntKind.wrap IntKind.u64 x0) (IntKind.wrap IntKind.u64 x1) (IntKind.wrap IntKind.u64 x2) (IntKind.wrap IntKind.u64 x3) (0 : Int) (0 : Int))
  else 0
def r_sLine_2 (x0 : Int) (x1 : Int) (x2 : Int) (x3 : Int) : Int :=
  bif !r_within__0 x0 (1 : Int) (1099511627776 : Int) then ((0 : Int))
  else bif !r_within__0 x1 (0 : Int) (1023 : Int) then ((0 : Int))
  else bif !r_within__0 x2 (0 : Int) (1099511627776 : Int) then ((0 : Int))
  else bif !r_within__0 x3 (1 : Int) (8 : Int) then ((0 : Int))
  else bif ok_crcSeal (1526644958 : Int) (IntKind.wrap IntKind.u64 x0) (IntKind.wrap IntKind.u64 x1) (IntKind.wrap IntKind.u64 x2) (IntKind.wrap IntKind.u64 x3) (0 : Int) (0 : Int) (0 : Int) then (r_crcSeal_2 (1526644958 : Int) (IntKind.wrap IntKind.u64 x0) (IntKind.wrap IntKind.u64 x1) (IntKind.wrap IntKind.u64 x2) (IntKind.wrap IntKind.u64 x3) (0 : Int) (0 : Int))
  else 0
def r_sLine_3 (x0 : Int) (x1 : Int) (x2 : Int) (x3 : Int) : Int :=
  bif !r_within__0 x0 (1 : Int) (1099511627776 : Int) then ((0 : Int))
  else bif !r_within__0 x1 (0 : Int) (1023 : Int) then ((0 : Int))
  else bif !r_within__0 x2 (0 : Int) (1099511627776 : Int) then ((0 : Int))
  else bif !r_within__0 x3 (1 : Int) (8 : Int) then ((0 : Int))
  else bif ok_crcSeal (1526644958 : Int) (IntKind.wrap IntKind.u64 x0) (IntKind.wrap IntKind.u64 x1) (IntKind.wrap IntKind.u64 x2) (IntKind.wrap IntKind.u64 x3) (0 : Int) (0 : Int) (0 : Int) then (r_crcSeal_3 (1526644958 : Int) (IntKind.wrap IntKind.u64 x0) (IntKind.wrap IntKind.u64 x1) (IntKind.wrap IntKind.u64 x2) (IntKind.wrap IntKind.u64 x3) (0 : Int) (0 : Int))
  else 0
def r_sLine_4 (x0 : Int) (x1 : Int) (x2 : Int) (x3 : Int) : Int :=
  bif !r_within__0 x0 (1 : Int) (1099511627776 : Int) then ((0 : Int))
  else bif !r_within__0 x1 (0 : Int) (1023 : Int) then ((0 : Int))
  else bif !r_within__0 x2 (0 : Int) (1099511627776 : Int) then ((0 : Int))
  else bif !r_within__0 x3 (1 : Int) (8 : Int) then ((0 : Int))
  else bif ok_crcSeal (1526644958 : Int) (IntKind.wrap IntKind.u64 x0) (IntKind.wrap IntKind.u64 x1) (IntKind.wrap IntKind.u64 x2) (IntKind.wrap IntKind.u64 x3) (0 : Int) (0 : Int) (0 : Int) then (r_crcSeal_4 (1526644958 : Int) (IntKind.wrap IntKind.u64 x0) (IntKind.wrap IntKind.u64 x1) (IntKind.wrap IntKind.u64 x2) (IntKind.wrap IntKind.u64 x3) (0 : Int) (0 : Int))
  else 0
def r_sLine_5 (x0 : Int) (x1 : Int) (x2 : Int) (x3 : Int) : Int :=
  bif !r_within__0 x0 (1 : Int) (1099511627776 : Int) then ((0 : Int))
  else bif !r_within__0 x1 (0 : Int) (1023 : Int) then ((0 : Int))
  else bif !r_within__0 x2 (0 : Int) (1099511627776 : Int) then ((0 : Int))
  else bif !r_within__0 x3 (1 : Int) (8 : Int) then ((0 : Int))
  else bif ok_crcSeal (1526644958 : Int) (IntKind.wrap IntKind.u64 x0) (IntKind.wrap IntKind.u64 x1) (IntKind.wrap IntKind.u64 x2) (IntKind.wrap IntKind.u64 x3) (0 : Int) (0 : Int) (0 : Int) then (r_crcSeal_5 (1526644958 : Int) (IntKind.wrap IntKind.u64 x0) (IntKind.wrap IntKind.u64 x1) (IntKind.wrap IntKind.u64 x2) (IntKind.wrap IntKind.u64 x3) (0 : Int) (0 : Int))
  else 0
def r_sLine_6 (x0 : Int) (x1 : Int) (x2 : Int) (x3 : Int) : Int :=
  bif !r_within__0 x0 (1 : Int) (1099511627776 : Int) then ((0 : Int))
  else bif !r_within__0 x1 (0 : Int) (1023 : Int) then ((0 : Int))
  else bif !r_within__0 x2 (0 : Int) (1099511627776 : Int) then ((0 : Int))
  else bif !r_within__0 x3 (1 : Int) (8 : Int) then ((0 : Int))
  else bif ok_crcSeal (1526644958 : Int) (IntKind.wrap IntKind.u64 x0) (IntKind.wrap IntKind.u64 x1) (IntKind.wrap IntKind.u64 x2) (IntKind.wrap IntKind.u64 x3) (0 : Int) (0 : Int) (0 : Int) then (r_crcSeal_6 (1526644958 : Int) (IntKind.wrap IntKind.u64 x0) (IntKind.wrap IntKind.u64 x1) (IntKind.wrap IntKind.u64 x2) (IntKind.wrap IntKind.u64 x3) (0 : Int) (0 : Int))
  else 0
def r_sLine_7 (x0 : Int) (x1 : Int) (x2 : Int) (x3 : Int) : Int :=
  bif !r_within__0 x0 (1 : Int) (1099511627776 : Int) then ((0 : Int))
  else bif !r_within__0 x1 (0 : Int) (1023 : Int) then ((0 : Int))
  else bif !r_within__0 x2 (0 : Int) (1099511627776 : Int) then ((0 : Int))
  else bif !r_within__0 x3 (1 : Int) (8 : Int) then ((0 : Int))
  else bif ok_crcSeal (1526644958 : Int) (IntKind.wrap IntKind.u64 x0) (IntKind.wrap IntKind.u64 x1) (IntKind.wrap IntKind.u64 x2) (IntKind.wrap IntKind.u64 x3) (0 : Int) (0 : Int) (0 : Int) then (r_crcSeal_7 (1526644958 : Int) (IntKind.wrap IntKind.u64 x0) (IntKind.wrap IntKind.u64 x1) (IntKind.wrap IntKind.u64 x2) (IntKind.wrap IntKind.u64 x3) (0 : Int) (0 : Int))
  else 0
def r_sLine_8 (x0 : Int) (x1 : Int) (x2 : Int) (x3 : Int) : Int :=
  bif !r_within__0 x0 (1 : Int) (1099511627776 : Int) then ((1 : Int))
  else bif !r_within__0 x1 (0 : Int) (1023 : Int) then ((1 : Int))
  else bif !r_within__0 x2 (0 : Int) (1099511627776 : Int) then ((1 : Int))
  else bif !r_within__0 x3 (1 : Int) (8 : Int) then ((1 : Int))
  else bif ok_crcSeal (1526644958 : Int) (IntKind.wrap IntKind.u64 x0) (IntKind.wrap IntKind.u64 x1) (IntKind.wrap IntKind.u64 x2) (IntKind.wrap IntKind.u64 x3) (0 : Int) (0 : Int) (0 : Int) then ((0 : Int))
  else 0
def ok_sLine (x0 : Int) (x1 : Int) (x2 : Int) (x3 : Int) : Bool :=
  bif !r_within__0 x0 (1 : Int) (1099511627776 : Int) then (true)
  else bif !r_within__0 x1 (0 : Int) (1023 : Int) then (true)
  else bif !r_within__0 x2 (0 : Int) (1099511627776 : Int) then (true)
  else bif !r_within__0 x3 (1 : Int) (8 : Int) then (true)
  else bif ok_crcSeal (1526644958 : Int) (IntKind.wrap IntKind.u64 x0) (IntKind.wrap IntKind.u64 x1) (IntKind.wrap IntKind.u64 x2) (IntKind.wrap IntKind.u64 x3) (0 : Int) (0 : Int) (0 : Int) then (true)
  else false
def F_sLine : List At → Tr (List At) := fun l => .br 0 (ok_sLine (aI l 0) (aI l 1) (aI l 2) (aI l 3)) (.ok [.i (r_sLine_0 (aI l 0) (aI l 1) (aI l 2) (aI l 3)), .i (r_sLine_1 (aI l 0) (aI l 1) (aI l 2) (aI l 3)), .i (r_sLine_2 (aI l 0) (aI l 1) (aI l 2) (aI l 3)), .i (r_sLine_3 (aI l 0) (aI l 1) (aI l 2) (aI l 3)), .i (r_sLine_4 (aI l 0) (aI l 1) (aI l 2) (aI l 3)), .i (r_sLine_5 (aI l 0) (aI l 1) (aI l 2) (aI l 3)), .i (r_sLine_6 (aI l 0) (aI l 1) (aI l 2) (aI l 3)), .i (r_sLine_7 (aI l 0) (aI l 1) (aI l 2) (aI l 3)), .i (r_sLine_8 (aI l 0) (aI l 1) (aI l 2) (aI l 3))]) .no
theorem s_sLine : SpecF Try.prog 11 (.pure (locP ish_sLine osh_sLine F_sLine)) :=
  spec_locP (sy := y_sLine) (fuel := 100) (Lp := noLoops) o_within_ mixed ⟨Try.func11, by kernel_rfl, by kernel_rfl⟩ ish_sLine osh_sLine rfl (noLoops_ok _) (hT_merged [.i, .i, .i, .i, .i, .i, .i, .i, .i] e_sLine (fun l => by kernel_rfl) (fun l => by kernel_rfl))
def Γ_sLine : Specs := upd Γ_within_ 11 (.pure (locP ish_sLine osh_sLine F_sLine))
theorem o_sLine : SpecOK Try.prog Γ_sLine := SpecOK.upd o_within_ s_sLine

/-! ### rLine -/

def ish_rLine : FSh := ⟨[.v true [.k (.n .i64), .k (.n .i64), .k (.n .i64), .k (.n .i64)]], []⟩
def osh_rLine : FSh := ⟨[.tup [(true, [.k (.n .u64), .k (.n .u64), .k (.n .u64), .k (.n .u64), .k (.n .u64), .k (.n .u64), .k (.n .u64), .k (.n .u64)]), (false, [.k (.n .i64)])]], []⟩
def T_rLine (x0 : Int) (x1 : Int) (x2 : Int) (x3 : Int) : Tr (List At) :=
 .br 7 (decide (x0 < (1 : Int)))
 (.ok [(.i ((0 : Int))), (.i ((0 : Int))), (.i ((0 : Int))), (.i ((0 : Int))), (.i ((0 : Int))), (.i ((0 : Int))), (.i ((0 : Int))), (.i ((0 : Int))), (.i ((1 : Int)))])
 (.br 12 (decide (x0 > (1099511627776 : Int)))
 (.ok [(.i ((0 : Int))), (.i ((0 : Int))), (.i ((0 : Int))), (.i ((0 : Int))), (.i ((0 : Int))), (.i ((0 : Int))), (.i ((0 : Int))), (.i ((0 : Int))), (.i ((1 : Int)))])
 (.br 17 (decide (x1 < (0 : Int)))
 (.ok [(.i ((0 : Int))), (.i ((0 : Int))), (.i ((0 : Int))), (.i ((0 : Int))), (.i ((0 : Int))), (.i ((0 : Int))), (.i ((0 : Int))), (.i ((0 : Int))), (.i ((1 : Int)))])
 (.br 22 (decide (x1 ≥ (1024 : Int)))
 (.ok [(.i ((0 : Int))), (.i ((0 : Int))), (.i ((0 : Int))), (.i ((0 : Int))), (.i ((0 : Int))), (.i ((0 : Int))), (.i ((0 : Int))), (.i ((0 : Int))), (.i ((1 : Int)))])
 (.br 27 (decide (x2 < (0 : Int)))
 (.ok [(.i ((0 : Int))), (.i ((0 : Int))), (.i ((0 : Int))), (.i ((0 : Int))), (.i ((0 : Int))), (.i ((0 : Int))), (.i ((0 : Int))), (.i ((0 : Int))), (.i ((1 : Int)))])
 (.br 32 (decide (x2 > (1099511627776 : Int)))
 (.ok [(.i ((0 : Int))), (.i ((0 : Int))), (.i ((0 : Int))), (.i ((0 : Int))), (.i ((0 : Int))), (.i ((0 : Int))), (.i ((0 : Int))), (.i ((0 : Int))), (.i ((1 : Int)))])
 (.br 37 (decide (x3 < (1 : Int)))
 (.ok [(.i ((0 : Int))), (.i ((0 : Int))), (.i ((0 : Int))), (.i ((0 : Int))), (.i ((0 : Int))), (.i ((0 : Int))), (.i ((0 : Int))), (.i ((0 : Int))), (.i ((1 : Int)))])
 (.br 41 (decide (x3 > (8 : Int)))
 (.ok [(.i ((0 : Int))), (.i ((0 : Int))), (.i ((0 : Int))), (.i ((0 : Int))), (.i ((0 : Int))), (.i ((0 : Int))), (.i ((0 : Int))), (.i ((0 : Int))), (.i ((1 : Int)))])
 (.br 0 (ok_refSeal (1526644958 : Int) (IntKind.wrap IntKind.u64 x0) (IntKind.wrap IntKind.u64 x1) (IntKind.wrap IntKind.u64 x2) (IntKind.wrap IntKind.u64 x3) (0 : Int) (0 : Int) (0 : Int))
 (.ok [(.i (r_refSeal_0 (1526644958 : Int) (IntKind.wrap IntKind.u64 x0) (IntKind.wrap IntKind.u64 x1) (IntKind.wrap IntKind.u64 x2) (IntKind.wrap IntKind.u64 x3) (0 : Int) (0 : Int))), (.i (r_refSeal_1 (1526644958 : Int) (IntKind.wrap IntKind.u64 x0) (IntKind.wrap IntKind.u64 x1) (IntKind.wrap IntKind.u64 x2) (IntKind.wrap IntKind.u64 x3) (0 : Int) (0 : Int))), (.i (r_refSeal_2 (1526644958 : Int) (IntKind.wrap IntKind.u64 x0) (IntKind.wrap IntKind.u64 x1) (IntKind.wrap IntKind.u64 x2) (IntKind.wrap IntKind.u64 x3) (0 : Int) (0 : Int))), (.i (r_refSeal_3 (1526644958 : Int) (IntKind.wrap IntKind.u64 x0) (IntKind.wrap IntKind.u64 x1) (IntKind.wrap IntKind.u64 x2) (IntKind.wrap IntKind.u64 x3) (0 : Int) (0 : Int))), (.i (r_refSeal_4 (1526644958 : Int) (IntKind.wrap IntKind.u64 x0) (IntKind.wrap IntKind.u64 x1) (IntKind.wrap IntKind.u64 x2) (IntKind.wrap IntKind.u64 x3) (0 : Int) (0 : Int))), (.i (r_refSeal_5 (1526644958 : Int) (IntKind.wrap IntKind.u64 x0) (IntKind.wrap IntKind.u64 x1) (IntKind.wrap IntKind.u64 x2) (IntKind.wrap IntKind.u64 x3) (0 : Int) (0 : Int))), (.i (r_refSeal_6 (1526644958 : Int) (IntKind.wrap IntKind.u64 x0) (IntKind.wrap IntKind.u64 x1) (IntKind.wrap IntKind.u64 x2) (IntKind.wrap IntKind.u64 x3) (0 : Int) (0 : Int))), (.i (r_refSeal_7 (1526644958 : Int) (IntKind.wrap IntKind.u64 x0) (IntKind.wrap IntKind.u64 x1) (IntKind.wrap IntKind.u64 x2) (IntKind.wrap IntKind.u64 x3) (0 : Int) (0 : Int))), (.i ((0 : Int)))])
 (.no)))))))))
def y_rLine : Nat → Option Nat := syOf3 [7, 12, 17, 22, 27, 32, 37, 41] [] []
def TL_rLine (l : List At) : Tr (List At) := T_rLine (aI l 0) (aI l 1) (aI l 2) (aI l 3)
theorem e_rLine (l : List At) : (call Try.prog Γ_sLine y_rLine noLoops 100 Try.f12 (mkV ish_rLine l) (mkH ish_rLine l)).bind (leafO 0 osh_rLine) = TL_rLine l := by kernel_rfl
def r_rLine_0 (x0 : Int) (x1 : Int) (x2 : Int) (x3 : Int) : Int :=
  bif decide (x0 < (1 : Int)) then ((0 : Int))
  else bif decide (x0 > (1099511627776 : Int)) then ((0 : Int))
  else bif decide (x1 < (0 : Int)) then ((0 : Int))
  else bif decide (x1 ≥ (1024 : Int)) then ((0 : Int))
  else bif decide (x2 < (0 : Int)) then ((0 : Int))
  else bif decide (x2 > (1099511627776 : Int)) then ((0 : Int))
  else bif decide (x3 < (1 : Int)) then ((0 : Int))
  else bif decide (x3 > (8 : Int)) then ((0 : Int))
  else bif ok_refSeal (1526644958 : Int) (IntKind.wrap IntKind.u64 x0) (IntKind.wrap IntKind.u64 x1) (IntKind.wrap IntKind.u64 x2) (IntKind.wrap IntKind.u64 x3) (0 : Int) (0 : Int) (0 : Int) then (r_refSeal_0 (1526644958 : Int) (IntKind.wrap IntKind.u64 x0) (IntKind.wrap IntKind.u64 x1) (IntKind.wrap IntKind.u64 x2) (IntKind.wrap IntKind.u64 x3) (0 : Int) (0 : Int))
  else 0
def r_rLine_1 (x0 : Int) (x1 : Int) (x2 : Int) (x3 : Int) : Int :=
  bif decide (x0 < (1 : Int)) then ((0 : Int))
  else bif decide (x0 > (1099511627776 : Int)) then ((0 : Int))
  else bif decide (x1 < (0 : Int)) then ((0 : Int))
  else bif decide (x1 ≥ (1024 : Int)) then ((0 : Int))
  else bif decide (x2 < (0 : Int)) then ((0 : Int))
  else bif decide (x2 > (1099511627776 : Int)) then ((0 : Int))
  else bif decide (x3 < (1 : Int)) then ((0 : Int))
  else bif decide (x3 > (8 : Int)) then ((0 : Int))
  else bif ok_refSeal (1526644958 : Int) (IntKind.wrap IntKind.u64 x0) (IntKind.wrap IntKind.u64 x1) (IntKind.wrap IntKind.u64 x2) (IntKind.wrap IntKind.u64 x3) (0 : Int) (0 : Int) (0 : Int) then (r_refSeal_1 (1526644958 : Int) (IntKind.wrap IntKind.u64 x0) (IntKind.wrap IntKind.u64 x1) (IntKind.wrap IntKind.u64 x2) (IntKind.wrap IntKind.u64 x3) (0 : Int) (0 : Int))
  else 0
def r_rLine_2 (x0 : Int) (x1 : Int) (x2 : Int) (x3 : Int) : Int :=
  bif decide (x0 < (1 : Int)) then ((0 : Int))
  else bif decide (x0 > (1099511627776 : Int)) then ((0 : Int))
  else bif decide (x1 < (0 : Int)) then ((0 : Int))
  else bif decide (x1 ≥ (1024 : Int)) then ((0 : Int))
  else bif decide (x2 < (0 : Int)) then ((0 : Int))
  else bif decide (x2 > (1099511627776 : Int)) then ((0 : Int))
  else bif decide (x3 < (1 : Int)) then ((0 : Int))
  else bif decide (x3 > (8 : Int)) then ((0 : Int))
  else bif ok_refSeal (1526644958 : Int) (IntKind.wrap IntKind.u64 x0) (IntKind.wrap IntKind.u64 x1) (IntKind.wrap IntKind.u64 x2) (IntKind.wrap IntKind.u64 x3) (0 : Int) (0 : Int) (0 : Int) then (r_refSeal_2 (1526644958 : Int) (IntKind.wrap IntKind.u64 x0) (IntKind.wrap IntKind.u64 x1) (IntKind.wrap IntKind.u64 x2) (IntKind.wrap IntKind.u64 x3) (0 : Int) (0 : Int))
  else 0
def r_rLine_3 (x0 : Int) (x1 : Int) (x2 : Int) (x3 : Int) : Int :=
  bif decide (x0 < (1 : Int)) then ((0 : Int))
  else bif decide (x0 > (1099511627776 : Int)) then ((0 : Int))
  else bif decide (x1 < (0 : Int)) then ((0 : Int))
  else bif decide (x1 ≥ (1024 : Int)) then ((0 : Int))
  else bif decide (x2 < (0 : Int)) then ((0 : Int))
  else bif decide (x2 > (1099511627776 : Int)) then ((0 : Int))
  else bif decide (x3 < (1 : Int)) then ((0 : Int))
  else bif decide (x3 > (8 : Int)) then ((0 : Int))
  else bif ok_refSeal (1526644958 : Int) (IntKind.wrap IntKind.u64 x0) (IntKind.wrap IntKind.u64 x1) (IntKind.wrap IntKind.u64 x2) (IntKind.wrap IntKind.u64 x3) (0 : Int) (0 : Int) (0 : Int) then (r_refSeal_3 (1526644958 : Int) (IntKind.wrap IntKind.u64 x0) (IntKind.wrap IntKind.u64 x1) (IntKind.wrap IntKind.u64 x2) (IntKind.wrap IntKind.u64 x3) (0 : Int) (0 : Int))
  else 0
def r_rLine_4 (x0 : Int) (x1 : Int) (x2 : Int) (x3 : Int) : Int :=
  bif decide (x0 < (1 : Int)) then ((0 : Int))
  else bif decide (x0 > (1099511627776 : Int)) then ((0 : Int))
  else bif decide (x1 < (0 : Int)) then ((0 : Int))
  else bif decide (x1 ≥ (1024 : Int)) then ((0 : Int))
  else bif decide (x2 < (0 : Int)) then ((0 : Int))
  else bif decide (x2 > (1099511627776 : Int)) then ((0 : Int))
  else bif decide (x3 < (1 : Int)) then ((0 : Int))
  else bif decide (x3 > (8 : Int)) then ((0 : Int))
  else bif ok_refSeal (1526644958 : Int) (IntKind.wrap IntKind.u64 x0) (IntKind.wrap IntKind.u64 x1) (IntKind.wrap IntKind.u64 x2) (IntKind.wrap IntKind.u64 x3) (0 : Int) (0 : Int) (0 : Int) then (r_refSeal_4 (1526644958 : Int) (IntKind.wrap IntKind.u64 x0) (IntKind.wrap IntKind.u64 x1) (IntKind.wrap IntKind.u64 x2) (IntKind.wrap IntKind.u64 x3) (0 : Int) (0 : Int))
  else 0
def r_rLine_5 (x0 : Int) (x1 : Int) (x2 : Int) (x3 : Int) : Int :=
  bif decide (x0 < (1 : Int)) then ((0 : Int))
  else bif decide (x0 > (1099511627776 : Int)) then ((0 : Int))
  else bif decide (x1 < (0 : Int)) then ((0 : Int))
  else bif decide (x1 ≥ (1024 : Int)) then ((0 : Int))
  else bif decide (x2 < (0 : Int)) then ((0 : Int))
  else bif decide (x2 > (1099511627776 : Int)) then ((0 : Int))
  else bif decide (x3 < (1 : Int)) then ((0 : Int))
  else bif decide (x3 > (8 : Int)) then ((0 : Int))
  else bif ok_refSeal (1526644958 : Int) (IntKind.wrap IntKind.u64 x0) (IntKind.wrap IntKind.u64 x1) (IntKind.wrap IntKind.u64 x2) (IntKind.wrap IntKind.u64 x3) (0 : Int) (0 : Int) (0 : Int) then (r_refSeal_5 (1526644958 : Int) (IntKind.wrap IntKind.u64 x0) (IntKind.wrap IntKind.u64 x1) (IntKind.wrap IntKind.u64 x2) (IntKind.wrap IntKind.u64 x3) (0 : Int) (0 : Int))
  else 0
def r_rLine_6 (x0 : Int) (x1 : Int) (x2 : Int) (x3 : Int) : Int :=
  bif decide (x0 < (1 : Int)) then ((0 : Int))
  else bif decide (x0 > (1099511627776 : Int)) then ((0 : Int))
  else bif decide (x1 < (0 : Int)) then ((0 : Int))
  else bif decide (x1 ≥ (1024 : Int)) then ((0 : Int))
  else bif decide (x2 < (0 : Int)) then ((0 : Int))
  else bif decide (x2 > (1099511627776 : Int)) then ((0 : Int))
  else bif decide (x3 < (1 : Int)) then ((0 : Int))
  else bif decide (x3 > (8 : Int)) then ((0 : Int))
  else bif ok_refSeal (1526644958 : Int) (IntKind.wrap IntKind.u64 x0) (IntKind.wrap IntKind.u64 x1) (IntKind.wrap IntKind.u64 x2) (IntKind.wrap IntKind.u64 x3) (0 : Int) (0 : Int) (0 : Int) then (r_refSeal_6 (1526644958 : Int) (IntKind.wrap IntKind.u64 x0) (IntKind.wrap IntKind.u64 x1) (IntKind.wrap IntKind.u64 x2) (IntKind.wrap IntKind.u64 x3) (0 : Int) (0 : Int))
  else 0
def r_rLine_7 (x0 : Int) (x1 : Int) (x2 : Int) (x3 : Int) : Int :=
  bif decide (x0 < (1 : Int)) then ((0 : Int))
  else bif decide (x0 > (1099511627776 : Int)) then ((0 : Int))
  else bif decide (x1 < (0 : Int)) then ((0 : Int))
  else bif decide (x1 ≥ (1024 : Int)) then ((0 : Int))
  else bif decide (x2 < (0 : Int)) then ((0 : Int))
  else bif decide (x2 > (1099511627776 : Int)) then ((0 : Int))
  else bif decide (x3 < (1 : Int)) then ((0 : Int))
  else bif decide (x3 > (8 : Int)) then ((0 : Int))
  else bif ok_refSeal (1526644958 : Int) (IntKind.wrap IntKind.u64 x0) (IntKind.wrap IntKind.u64 x1) (IntKind.wrap IntKind.u64 x2) (IntKind.wrap IntKind.u64 x3) (0 : Int) (0 : Int) (0 : Int) then (r_refSeal_7 (1526644958 : Int) (IntKind.wrap IntKind.u64 x0) (IntKind.wrap IntKind.u64 x1) (IntKind.wrap IntKind.u64 x2) (IntKind.wrap IntKind.u64 x3) (0 : Int) (0 : Int))
  else 0
def r_rLine_8 (x0 : Int) (x1 : Int) (x2 : Int) (x3 : Int) : Int :=
  bif decide (x0 < (1 : Int)) then ((1 : Int))
  else bif decide (x0 > (1099511627776 : Int)) then ((1 : Int))
  else bif decide (x1 < (0 : Int)) then ((1 : Int))
  else bif decide (x1 ≥ (1024 : Int)) then ((1 : Int))
  else bif decide (x2 < (0 : Int)) then ((1 : Int))
  else bif decide (x2 > (1099511627776 : Int)) then ((1 : Int))
  else bif decide (x3 < (1 : Int)) then ((1 : Int))
  else bif decide (x3 > (8 : Int)) then ((1 : Int))
  else bif ok_refSeal (1526644958 : Int) (IntKind.wrap IntKind.u64 x0) (IntKind.wrap IntKind.u64 x1) (IntKind.wrap IntKind.u64 x2) (IntKind.wrap IntKind.u64 x3) (0 : Int) (0 : Int) (0 : Int) then ((0 : Int))
  else 0
def ok_rLine (x0 : Int) (x1 : Int) (x2 : Int) (x3 : Int) : Bool :=
  bif decide (x0 < (1 : Int)) then (true)
  else bif decide (x0 > (1099511627776 : Int)) then (true)
  else bif decide (x1 < (0 : Int)) then (true)
  else bif decide (x1 ≥ (1024 : Int)) then (true)
  else bif decide (x2 < (0 : Int)) then (true)
  else bif decide (x2 > (1099511627776 : Int)) then (true)
  else bif decide (x3 < (1 : Int)) then (true)
  else bif decide (x3 > (8 : Int)) then (true)
  else bif ok_refSeal (1526644958 : Int) (IntKind.wrap IntKind.u64 x0) (IntKind.wrap IntKind.u64 x1) (IntKind.wrap IntKind.u64 x2) (IntKind.wrap IntKind.u64 x3) (0 : Int) (0 : Int) (0 : Int) then (true)
  else false
def F_rLine : List At → Tr (List At) := fun l => .br 0 (ok_rLine (aI l 0) (aI l 1) (aI l 2) (aI l 3)) (.ok [.i (r_rLine_0 (aI l 0) (aI l 1) (aI l 2) (aI l 3)), .i (r_rLine_1 (aI l 0) (aI l 1) (aI l 2) (aI l 3)), .i (r_rLine_2 (aI l 0) (aI l 1) (aI l 2) (aI l 3)), .i (r_rLine_3 (aI l 0) (aI l 1) (aI l 2) (aI l 3)), .i (r_rLine_4 (aI l 0) (aI l 1) (aI l 2) (aI l 3)), .i (r_rLine_5 (aI l 0) (aI l 1) (aI l 2) (aI l 3)), .i (r_rLine_6 (aI l 0) (aI l 1) (aI l 2) (aI l 3)), .i (r_rLine_7 (aI l 0) (aI l 1) (aI l 2) (aI l 3)), .i (r_rLine_8 (aI l 0) (aI l 1) (aI l 2) (aI l 3))]) .no
theorem s_rLine : SpecF Try.prog 12 (.pure (locP ish_rLine osh_rLine F_rLine)) :=
  spec_locP (sy := y_rLine) (fuel := 100) (Lp := noLoops) o_sLine mixed ⟨Try.func12, by kernel_rfl, by kernel_rfl⟩ ish_rLine osh_rLine rfl (noLoops_ok _) (hT_merged [.i, .i, .i, .i, .i, .i, .i, .i, .i] e_rLine (fun l => by kernel_rfl) (fun l => by kernel_rfl))
def Γ_rLine : Specs := upd Γ_sLine 12 (.pure (locP ish_rLine osh_rLine F_rLine))
theorem o_rLine : SpecOK Try.prog Γ_rLine := SpecOK.upd o_sLine s_rLine

/-! ### sRead -/

def ish_sRead : FSh := ⟨[.v true [.k (.n .u64), .k (.n .u64), .k (.n .u64), .k (.n .u64), .k (.n .u64), .k (.n .u64), .k (.n .u64), .k (.n .u64)]], []⟩
def osh_sRead : FSh := ⟨[.tup [(true, [.k (.n .i64), .k (.n .i64), .k (.n .i64), .k (.n .i64)]), (false, [.k .b])]], []⟩
def T_sRead (x0 : Int) (x1 : Int) (x2 : Int) (x3 : Int) (x4 : Int) (x5 : Int) (x6 : Int) (x7 : Int) : Tr (List At) :=
 .br 0 (ok_sLine (IntKind.wrap IntKind.i64 x1) (IntKind.wrap IntKind.i64 x2) (IntKind.wrap IntKind.i64 x3) (IntKind.wrap IntKind.i64 x4))
 (.br 27 (r_sLine_8 (IntKind.wrap IntKind.i64 x1) (IntKind.wrap IntKind.i64 x2) (IntKind.wrap IntKind.i64 x3) (IntKind.wrap IntKind.i64 x4) != (0 : Int))
 (.ok [(.i ((0 : Int))), (.i ((0 : Int))), (.i ((0 : Int))), (.i ((0 : Int))), (.b (false))])
 (.br 31 (!(r_sLine_0 (IntKind.wrap IntKind.i64 x1) (IntKind.wrap IntKind.i64 x2) (IntKind.wrap IntKind.i64 x3) (IntKind.wrap IntKind.i64 x4) == x0 && (r_sLine_1 (IntKind.wrap IntKind.i64 x1) (IntKind.wrap IntKind.i64 x2) (IntKind.wrap IntKind.i64 x3) (IntKind.wrap IntKind.i64 x4) == x1 && (r_sLine_2 (IntKind.wrap IntKind.i64 x1) (IntKind.wrap IntKind.i64 x2) (IntKind.wrap IntKind.i64 x3) (IntKind.wrap IntKind.i64 x4) == x2 && (r_sLine_3 (IntKind.wrap IntKind.i64 x1) (IntKind.wrap IntKind.i64 x2) (IntKind.wrap IntKind.i64 x3) (IntKind.wrap IntKind.i64 x4) == x3 && (r_sLine_4 (IntKind.wrap IntKind.i64 x1) (IntKind.wrap IntKind.i64 x2) (IntKind.wrap IntKind.i64 x3) (IntKind.wrap IntKind.i64 x4) == x4 && (r_sLine_5 (IntKind.wrap IntKind.i64 x1) (IntKind.wrap IntKind.i64 x2) (IntKind.wrap IntKind.i64 x3) (IntKind.wrap IntKind.i64 x4) == x5 && (r_sLine_6 (IntKind.wrap IntKind.i64 x1) (IntKind.wrap IntKind.i64 x2) (IntKind.wrap IntKind.i64 x3) (IntKind.wrap IntKind.i64 x4) == x6 && (r_sLine_7 (IntKind.wrap IntKind.i64 x1) (IntKind.wrap IntKind.i64 x2) (IntKind.wrap IntKind.i64 x3) (IntKind.wrap IntKind.i64 x4) == x7 && true)))))))))
 (.ok [(.i ((0 : Int))), (.i ((0 : Int))), (.i ((0 : Int))), (.i ((0 : Int))), (.b (false))])
 (.ok [(.i (IntKind.wrap IntKind.i64 x1)), (.i (IntKind.wrap IntKind.i64 x2)), (.i (IntKind.wrap IntKind.i64 x3)), (.i (IntKind.wrap IntKind.i64 x4)), (.b (true))])))
 (.no)
def y_sRead : Nat → Option Nat := syOf3 [27, 31] [] []
def TL_sRead (l : List At) : Tr (List At) := T_sRead (aI l 0) (aI l 1) (aI l 2) (aI l 3) (aI l 4) (aI l 5) (aI l 6) (aI l 7)
theorem e_sRead (l : List At) : (call Try.prog Γ_rLine y_sRead noLoops 100 Try.f13 (mkV ish_sRead l) (mkH ish_sRead l)).bind (leafO 0 osh_sRead) = TL_sRead l := by kernel_rfl
def r_sRead_0 (x0 : Int) (x1 : Int) (x2 : Int) (x3 : Int) (x4 : Int) (x5 : Int) (x6 : Int) (x7 : Int) : Int :=
  bif ok_sLine (IntKind.wrap IntKind.i64 x1) (IntKind.wrap IntKind.i64 x2) (IntKind.wrap IntKind.i64 x3) (IntKind.wrap IntKind.i64 x4) then (bif r_sLine_8 (IntKind.wrap IntKind.i64 x1) (IntKind.wrap IntKind.i64 x2) (IntKind.wrap IntKind.i64 x3) (IntKind.wrap IntKind.i64 x4) != (0 : Int) then ((0 : Int))
  else bif !(r_sLine_0 (IntKind.wrap IntKind.i64 x1) (IntKind.wrap IntKind.i64 x2) (IntKind.wrap IntKind.i64 x3) (IntKind.wrap IntKind.i64 x4) == x0 && (r_sLine_1 (IntKind.wrap IntKind.i64 x1) (IntKind.wrap IntKind.i64 x2) (IntKind.wrap IntKind.i64 x3) (IntKind.wrap IntKind.i64 x4) == x1 && (r_sLine_2 (IntKind.wrap IntKind.i64 x1) (IntKind.wrap IntKind.i64 x2) (IntKind.wrap IntKind.i64 x3) (IntKind.wrap IntKind.i64 x4) == x2 && (r_sLine_3 (IntKind.wrap IntKind.i64 x1) (IntKind.wrap IntKind.i64 x2) (IntKind.wrap IntKind.i64 x3) (IntKind.wrap IntKind.i64 x4) == x3 && (r_sLine_4 (IntKind.wrap IntKind.i64 x1) (IntKind.wrap IntKind.i64 x2) (IntKind.wrap IntKind.i64 x3) (IntKind.wrap IntKind.i64 x4) == x4 && (r_sLine_5 (IntKind.wrap IntKind.i64 x1) (IntKind.wrap IntKind.i64 x2) (IntKind.wrap IntKind.i64 x3) (IntKind.wrap IntKind.i64 x4) == x5 && (r_sLine_6 (IntKind.wrap IntKind.i64 x1) (IntKind.wrap IntKind.i64 x2) (IntKind.wrap IntKind.i64 x3) (IntKind.wrap IntKind.i64 x4) == x6 && (r_sLine_7 (IntKind.wrap IntKind.i64 x1) (IntKind.wrap IntKind.i64 x2) (IntKind.wrap IntKind.i64 x3) (IntKind.wrap IntKind.i64 x4) == x7 && true)))))))) then ((0 : Int))
  else IntKind.wrap IntKind.i64 x1)
  else 0
def r_sRead_1 (x0 : Int) (x1 : Int) (x2 : Int) (x3 : Int) (x4 : Int) (x5 : Int) (x6 : Int) (x7 : Int) : Int :=
  bif ok_sLine (IntKind.wrap IntKind.i64 x1) (IntKind.wrap IntKind.i64 x2) (IntKind.wrap IntKind.i64 x3) (IntKind.wrap IntKind.i64 x4) then (bif r_sLine_8 (IntKind.wrap IntKind.i64 x1) (IntKind.wrap IntKind.i64 x2) (IntKind.wrap IntKind.i64 x3) (IntKind.wrap IntKind.i64 x4) != (0 : Int) then ((0 : Int))
  else bif !(r_sLine_0 (IntKind.wrap IntKind.i64 x1) (IntKind.wrap IntKind.i64 x2) (IntKind.wrap IntKind.i64 x3) (IntKind.wrap IntKind.i64 x4) == x0 && (r_sLine_1 (IntKind.wrap IntKind.i64 x1) (IntKind.wrap IntKind.i64 x2) (IntKind.wrap IntKind.i64 x3) (IntKind.wrap IntKind.i64 x4) == x1 && (r_sLine_2 (IntKind.wrap IntKind.i64 x1) (IntKind.wrap IntKind.i64 x2) (IntKind.wrap IntKind.i64 x3) (IntKind.wrap IntKind.i64 x4) == x2 && (r_sLine_3 (IntKind.wrap IntKind.i64 x1) (IntKind.wrap IntKind.i64 x2) (IntKind.wrap IntKind.i64 x3) (IntKind.wrap IntKind.i64 x4) == x3 && (r_sLine_4 (IntKind.wrap IntKind.i64 x1) (IntKind.wrap IntKind.i64 x2) (IntKind.wrap IntKind.i64 x3) (IntKind.wrap IntKind.i64 x4) == x4 && (r_sLine_5 (IntKind.wrap IntKind.i64 x1) (IntKind.wrap IntKind.i64 x2) (IntKind.wrap IntKind.i64 x3) (IntKind.wrap IntKind.i64 x4) == x5 && (r_sLine_6 (IntKind.wrap IntKind.i64 x1) (IntKind.wrap IntKind.i64 x2) (IntKind.wrap IntKind.i64 x3) (IntKind.wrap IntKind.i64 x4) == x6 && (r_sLine_7 (IntKind.wrap IntKind.i64 x1) (IntKind.wrap IntKind.i64 x2) (IntKind.wrap IntKind.i64 x3) (IntKind.wrap IntKind.i64 x4) == x7 && true)))))))) then ((0 : Int))
  else IntKind.wrap IntKind.i64 x2)
  else 0
def r_sRead_2 (x0 : Int) (x1 : Int) (x2 : Int) (x3 : Int) (x4 : Int) (x5 : Int) (x6 : Int) (x7 : Int) : Int :=
  bif ok_sLine (IntKind.wrap IntKind.i64 x1) (IntKind.wrap IntKind.i64 x2) (IntKind.wrap IntKind.i64 x3) (IntKind.wrap IntKind.i64 x4) then (bif r_sLine_8 (IntKind.wrap IntKind.i64 x1) (IntKind.wrap IntKind.i64 x2) (IntKind.wrap IntKind.i64 x3) (IntKind.wrap IntKind.i64 x4) != (0 : Int) then ((0 : Int))
  else bif !(r_sLine_0 (IntKind.wrap IntKind.i64 x1) (IntKind.wrap IntKind.i64 x2) (IntKind.wrap IntKind.i64 x3) (IntKind.wrap IntKind.i64 x4) == x0 && (r_sLine_1 (IntKind.wrap IntKind.i64 x1) (IntKind.wrap IntKind.i64 x2) (IntKind.wrap IntKind.i64 x3) (IntKind.wrap IntKind.i64 x4) == x1 && (r_sLine_2 (IntKind.wrap IntKind.i64 x1) (IntKind.wrap IntKind.i64 x2) (IntKind.wrap IntKind.i64 x3) (IntKind.wrap IntKind.i64 x4) == x2 && (r_sLine_3 (IntKind.wrap IntKind.i64 x1) (IntKind.wrap IntKind.i64 x2) (IntKind.wrap IntKind.i64 x3) (IntKind.wrap IntKind.i64 x4) == x3 && (r_sLine_4 (IntKind.wrap IntKind.i64 x1) (IntKind.wrap IntKind.i64 x2) (IntKind.wrap IntKind.i64 x3) (IntKind.wrap IntKind.i64 x4) == x4 && (r_sLine_5 (IntKind.wrap IntKind.i64 x1) (IntKind.wrap IntKind.i64 x2) (IntKind.wrap IntKind.i64 x3) (IntKind.wrap IntKind.i64 x4) == x5 && (r_sLine_6 (IntKind.wrap IntKind.i64 x1) (IntKind.wrap IntKind.i64 x2) (IntKind.wrap IntKind.i64 x3) (IntKind.wrap IntKind.i64 x4) == x6 && (r_sLine_7 (IntKind.wrap IntKind.i64 x1) (IntKind.wrap IntKind.i64 x2) (IntKind.wrap IntKind.i64 x3) (IntKind.wrap IntKind.i64 x4) == x7 && true)))))))) then ((0 : Int))
  else IntKind.wrap IntKind.i64 x3)
  else 0
def r_sRead_3 (x0 : Int) (x1 : Int) (x2 : Int) (x3 : Int) (x4 : Int) (x5 : Int) (x6 : Int) (x7 : Int) : Int :=
  bif ok_sLine (IntKind.wrap IntKind.i64 x1) (IntKind.wrap IntKind.i64 x2) (IntKind.wrap IntKind.i64 x3) (IntKind.wrap IntKind.i64 x4) then (bif r_sLine_8 (IntKind.wrap IntKind.i64 x1) (IntKind.wrap IntKind.i64 x2) (IntKind.wrap IntKind.i64 x3) (IntKind.wrap IntKind.i64 x4) != (0 : Int) then ((0 : Int))
  else bif !(r_sLine_0 (IntKind.wrap IntKind.i64 x1) (IntKind.wrap IntKind.i64 x2) (IntKind.wrap IntKind.i64 x3) (IntKind.wrap IntKind.i64 x4) == x0 && (r_sLine_1 (IntKind.wrap IntKind.i64 x1) (IntKind.wrap IntKind.i64 x2) (IntKind.wrap IntKind.i64 x3) (IntKind.wrap IntKind.i64 x4) == x1 && (r_sLine_2 (IntKind.wrap IntKind.i64 x1) (IntKind.wrap IntKind.i64 x2) (IntKind.wrap IntKind.i64 x3) (IntKind.wrap IntKind.i64 x4) == x2 && (r_sLine_3 (IntKind.wrap IntKind.i64 x1) (IntKind.wrap IntKind.i64 x2) (IntKind.wrap IntKind.i64 x3) (IntKind.wrap IntKind.i64 x4) == x3 && (r_sLine_4 (IntKind.wrap IntKind.i64 x1) (IntKind.wrap IntKind.i64 x2) (IntKind.wrap IntKind.i64 x3) (IntKind.wrap IntKind.i64 x4) == x4 && (r_sLine_5 (IntKind.wrap IntKind.i64 x1) (IntKind.wrap IntKind.i64 x2) (IntKind.wrap IntKind.i64 x3) (IntKind.wrap IntKind.i64 x4) == x5 && (r_sLine_6 (IntKind.wrap IntKind.i64 x1) (IntKind.wrap IntKind.i64 x2) (IntKind.wrap IntKind.i64 x3) (IntKind.wrap IntKind.i64 x4) == x6 && (r_sLine_7 (IntKind.wrap IntKind.i64 x1) (IntKind.wrap IntKind.i64 x2) (IntKind.wrap IntKind.i64 x3) (IntKind.wrap IntKind.i64 x4) == x7 && true)))))))) then ((0 : Int))
  else IntKind.wrap IntKind.i64 x4)
  else 0
def r_sRead_4 (x0 : Int) (x1 : Int) (x2 : Int) (x3 : Int) (x4 : Int) (x5 : Int) (x6 : Int) (x7 : Int) : Bool :=
  bif ok_sLine (IntKind.wrap IntKind.i64 x1) (IntKind.wrap IntKind.i64 x2) (IntKind.wrap IntKind.i64 x3) (IntKind.wrap IntKind.i64 x4) then (bif r_sLine_8 (IntKind.wrap IntKind.i64 x1) (IntKind.wrap IntKind.i64 x2) (IntKind.wrap IntKind.i64 x3) (IntKind.wrap IntKind.i64 x4) != (0 : Int) then (false)
  else bif !(r_sLine_0 (IntKind.wrap IntKind.i64 x1) (IntKind.wrap IntKind.i64 x2) (IntKind.wrap IntKind.i64 x3) (IntKind.wrap IntKind.i64 x4) == x0 && (r_sLine_1 (IntKind.wrap IntKind.i64 x1) (IntKind.wrap IntKind.i64 x2) (IntKind.wrap IntKind.i64 x3) (IntKind.wrap IntKind.i64 x4) == x1 && (r_sLine_2 (IntKind.wrap IntKind.i64 x1) (IntKind.wrap IntKind.i64 x2) (IntKind.wrap IntKind.i64 x3) (IntKind.wrap IntKind.i64 x4) == x2 && (r_sLine_3 (IntKind.wrap IntKind.i64 x1) (IntKind.wrap IntKind.i64 x2) (IntKind.wrap IntKind.i64 x3) (IntKind.wrap IntKind.i64 x4) == x3 && (r_sLine_4 (IntKind.wrap IntKind.i64 x1) (IntKind.wrap IntKind.i64 x2) (IntKind.wrap IntKind.i64 x3) (IntKind.wrap IntKind.i64 x4) == x4 && (r_sLine_5 (IntKind.wrap IntKind.i64 x1) (IntKind.wrap IntKind.i64 x2) (IntKind.wrap IntKind.i64 x3) (IntKind.wrap IntKind.i64 x4) == x5 && (r_sLine_6 (IntKind.wrap IntKind.i64 x1) (IntKind.wrap IntKind.i64 x2) (IntKind.wrap IntKind.i64 x3) (IntKind.wrap IntKind.i64 x4) == x6 && (r_sLine_7 (IntKind.wrap IntKind.i64 x1) (IntKind.wrap IntKind.i64 x2) (IntKind.wrap IntKind.i64 x3) (IntKind.wrap IntKind.i64 x4) == x7 && true)))))))) then (false)
  else true)
  else false
def ok_sRead (x0 : Int) (x1 : Int) (x2 : Int) (x3 : Int) (x4 : Int) (x5 : Int) (x6 : Int) (x7 : Int) : Bool :=
  bif ok_sLine (IntKind.wrap IntKind.i64 x1) (IntKind.wrap IntKind.i64 x2) (IntKind.wrap IntKind.i64 x3) (IntKind.wrap IntKind.i64 x4) then (bif r_sLine_8 (IntKind.wrap IntKind.i64 x1) (IntKind.wrap IntKind.i64 x2) (IntKind.wrap IntKind.i64 x3) (IntKind.wrap IntKind.i64 x4) != (0 : Int) then (true)
  else bif !(r_sLine_0 (IntKind.wrap IntKind.i64 x1) (IntKind.wrap IntKind.i64 x2) (IntKind.wrap IntKind.i64 x3) (IntKind.wrap IntKind.i64 x4) == x0 && (r_sLine_1 (IntKind.wrap IntKind.i64 x1) (IntKind.wrap IntKind.i64 x2) (IntKind.wrap IntKind.i64 x3) (IntKind.wrap IntKind.i64 x4) == x1 && (r_sLine_2 (IntKind.wrap IntKind.i64 x1) (IntKind.wrap IntKind.i64 x2) (IntKind.wrap IntKind.i64 x3) (IntKind.wrap IntKind.i64 x4) == x2 && (r_sLine_3 (IntKind.wrap IntKind.i64 x1) (IntKind.wrap IntKind.i64 x2) (IntKind.wrap IntKind.i64 x3) (IntKind.wrap IntKind.i64 x4) == x3 && (r_sLine_4 (IntKind.wrap IntKind.i64 x1) (IntKind.wrap IntKind.i64 x2) (IntKind.wrap IntKind.i64 x3) (IntKind.wrap IntKind.i64 x4) == x4 && (r_sLine_5 (IntKind.wrap IntKind.i64 x1) (IntKind.wrap IntKind.i64 x2) (IntKind.wrap IntKind.i64 x3) (IntKind.wrap IntKind.i64 x4) == x5 && (r_sLine_6 (IntKind.wrap IntKind.i64 x1) (IntKind.wrap IntKind.i64 x2) (IntKind.wrap IntKind.i64 x3) (IntKind.wrap IntKind.i64 x4) == x6 && (r_sLine_7 (IntKind.wrap IntKind.i64 x1) (IntKind.wrap IntKind.i64 x2) (IntKind.wrap IntKind.i64 x3) (IntKind.wrap IntKind.i64 x4) == x7 && true)))))))) then (true)
  else true)
  else false
def F_sRead : List At → Tr (List At) := fun l => .br 0 (ok_sRead (aI l 0) (aI l 1) (aI l 2) (aI l 3) (aI l 4) (aI l 5) (aI l 6) (aI l 7)) (.ok [.i (r_sRead_0 (aI l 0) (aI l 1) (aI l 2) (aI l 3) (aI l 4) (aI l 5) (aI l 6) (aI l 7)), .i (r_sRead_1 (aI l 0) (aI l 1) (aI l 2) (aI l 3) (aI l 4) (aI l 5) (aI l 6) (aI l 7)), .i (r_sRead_2 (aI l 0) (aI l 1) (aI l 2) (aI l 3) (aI l 4) (aI l 5) (aI l 6) (aI l 7)), .i (r_sRead_3 (aI l 0) (aI l 1) (aI l 2) (aI l 3) (aI l 4) (aI l 5) (aI l 6) (aI l 7)), .b (r_sRead_4 (aI l 0) (aI l 1) (aI l 2) (aI l 3) (aI l 4) (aI l 5) (aI l 6) (aI l 7))]) .no
theorem s_sRead : SpecF Try.prog 13 (.pure (locP ish_sRead osh_sRead F_sRead)) :=
  spec_locP (sy := y_sRead) (fuel := 100) (Lp := noLoops) o_rLine mixed ⟨Try.func13, by kernel_rfl, by kernel_rfl⟩ ish_sRead osh_sRead rfl (noLoops_ok _) (hT_merged [.i, .i, .i, .i, .b] e_sRead (fun l => by kernel_rfl) (fun l => by kernel_rfl))
def Γ_sRead : Specs := upd Γ_rLine 13 (.pure (locP ish_sRead osh_sRead F_sRead))
theorem o_sRead : SpecOK Try.prog Γ_sRead := SpecOK.upd o_rLine s_sRead

/-! ### rRead -/

def ish_rRead : FSh := ⟨[.v true [.k (.n .u64), .k (.n .u64), .k (.n .u64), .k (.n .u64), .k (.n .u64), .k (.n .u64), .k (.n .u64), .k (.n .u64)]], []⟩
def osh_rRead : FSh := ⟨[.tup [(true, [.k (.n .i64), .k (.n .i64), .k (.n .i64), .k (.n .i64)]), (false, [.k .b])]], []⟩
def T_rRead (x0 : Int) (x1 : Int) (x2 : Int) (x3 : Int) (x4 : Int) (x5 : Int) (x6 : Int) (x7 : Int) : Tr (List At) :=
 .br 0 (ok_rLine (IntKind.wrap IntKind.i64 x1) (IntKind.wrap IntKind.i64 x2) (IntKind.wrap IntKind.i64 x3) (IntKind.wrap IntKind.i64 x4))
 (.br 27 (r_rLine_8 (IntKind.wrap IntKind.i64 x1) (IntKind.wrap IntKind.i64 x2) (IntKind.wrap IntKind.i64 x3) (IntKind.wrap IntKind.i64 x4) != (0 : Int))
 (.ok [(.i ((0 : Int))), (.i ((0 : Int))), (.i ((0 : Int))), (.i ((0 : Int))), (.b (false))])
 (.br 31 (!(r_rLine_0 (IntKind.wrap IntKind.i64 x1) (IntKind.wrap IntKind.i64 x2) (IntKind.wrap IntKind.i64 x3) (IntKind.wrap IntKind.i64 x4) == x0 && (r_rLine_1 (IntKind.wrap IntKind.i64 x1) (IntKind.wrap IntKind.i64 x2) (IntKind.wrap IntKind.i64 x3) (IntKind.wrap IntKind.i64 x4) == x1 && (r_rLine_2 (IntKind.wrap IntKind.i64 x1) (IntKind.wrap IntKind.i64 x2) (IntKind.wrap IntKind.i64 x3) (IntKind.wrap IntKind.i64 x4) == x2 && (r_rLine_3 (IntKind.wrap IntKind.i64 x1) (IntKind.wrap IntKind.i64 x2) (IntKind.wrap IntKind.i64 x3) (IntKind.wrap IntKind.i64 x4) == x3 && (r_rLine_4 (IntKind.wrap IntKind.i64 x1) (IntKind.wrap IntKind.i64 x2) (IntKind.wrap IntKind.i64 x3) (IntKind.wrap IntKind.i64 x4) == x4 && (r_rLine_5 (IntKind.wrap IntKind.i64 x1) (IntKind.wrap IntKind.i64 x2) (IntKind.wrap IntKind.i64 x3) (IntKind.wrap IntKind.i64 x4) == x5 && (r_rLine_6 (IntKind.wrap IntKind.i64 x1) (IntKind.wrap IntKind.i64 x2) (IntKind.wrap IntKind.i64 x3) (IntKind.wrap IntKind.i64 x4) == x6 && (r_rLine_7 (IntKind.wrap IntKind.i64 x1) (IntKind.wrap IntKind.i64 x2) (IntKind.wrap IntKind.i64 x3) (IntKind.wrap IntKind.i64 x4) == x7 && true)))))))))
 (.ok [(.i ((0 : Int))), (.i ((0 : Int))), (.i ((0 : Int))), (.i ((0 : Int))), (.b (false))])
 (.ok [(.i (IntKind.wrap IntKind.i64 x1)), (.i (IntKind.wrap IntKind.i64 x2)), (.i (IntKind.wrap IntKind.i64 x3)), (.i (IntKind.wrap IntKind.i64 x4)), (.b (true))])))
 (.no)
def y_rRead : Nat → Option Nat := syOf3 [27, 31] [] []
def TL_rRead (l : List At) : Tr (List At) := T_rRead (aI l 0) (aI l 1) (aI l 2) (aI l 3) (aI l 4) (aI l 5) (aI l 6) (aI l 7)
theorem e_rRead (l : List At) : (call Try.prog Γ_sRead y_rRead noLoops 100 Try.f14 (mkV ish_rRead l) (mkH ish_rRead l)).bind (leafO 0 osh_rRead) = TL_rRead l := by kernel_rfl
def r_rRead_0 (x0 : Int) (x1 : Int) (x2 : Int) (x3 : Int) (x4 : Int) (x5 : Int) (x6 : Int) (x7 : Int) : Int :=
  bif ok_rLine (IntKind.wrap IntKind.i64 x1) (IntKind.wrap IntKind.i64 x2) (IntKind.wrap IntKind.i64 x3) (IntKind.wrap IntKind.i64 x4) then (bif r_rLine_8 (IntKind.wrap IntKind.i64 x1) (IntKind.wrap IntKind.i64 x2) (IntKind.wrap IntKind.i64 x3) (IntKind.wrap IntKind.i64 x4) != (0 : Int) then ((0 : Int))
  else bif !(r_rLine_0 (IntKind.wrap IntKind.i64 x1) (IntKind.wrap IntKind.i64 x2) (IntKind.wrap IntKind.i64 x3) (IntKind.wrap IntKind.i64 x4) == x0 && (r_rLine_1 (IntKind.wrap IntKind.i64 x1) (IntKind.wrap IntKind.i64 x2) (IntKind.wrap IntKind.i64 x3) (IntKind.wrap IntKind.i64 x4) == x1 && (r_rLine_2 (IntKind.wrap IntKind.i64 x1) (IntKind.wrap IntKind.i64 x2) (IntKind.wrap IntKind.i64 x3) (IntKind.wrap IntKind.i64 x4) == x2 && (r_rLine_3 (IntKind.wrap IntKind.i64 x1) (IntKind.wrap IntKind.i64 x2) (IntKind.wrap IntKind.i64 x3) (IntKind.wrap IntKind.i64 x4) == x3 && (r_rLine_4 (IntKind.wrap IntKind.i64 x1) (IntKind.wrap IntKind.i64 x2) (IntKind.wrap IntKind.i64 x3) (IntKind.wrap IntKind.i64 x4) == x4 && (r_rLine_5 (IntKind.wrap IntKind.i64 x1) (IntKind.wrap IntKind.i64 x2) (IntKind.wrap IntKind.i64 x3) (IntKind.wrap IntKind.i64 x4) == x5 && (r_rLine_6 (IntKind.wrap IntKind.i64 x1) (IntKind.wrap IntKind.i64 x2) (IntKind.wrap IntKind.i64 x3) (IntKind.wrap IntKind.i64 x4) == x6 && (r_rLine_7 (IntKind.wrap IntKind.i64 x1) (IntKind.wrap IntKind.i64 x2) (IntKind.wrap IntKind.i64 x3) (IntKind.wrap IntKind.i64 x4) == x7 && true)))))))) then ((0 : Int))
  else IntKind.wrap IntKind.i64 x1)
  else 0
def r_rRead_1 (x0 : Int) (x1 : Int) (x2 : Int) (x3 : Int) (x4 : Int) (x5 : Int) (x6 : Int) (x7 : Int) : Int :=
  bif ok_rLine (IntKind.wrap IntKind.i64 x1) (IntKind.wrap IntKind.i64 x2) (IntKind.wrap IntKind.i64 x3) (IntKind.wrap IntKind.i64 x4) then (bif r_rLine_8 (IntKind.wrap IntKind.i64 x1) (IntKind.wrap IntKind.i64 x2) (IntKind.wrap IntKind.i64 x3) (IntKind.wrap IntKind.i64 x4) != (0 : Int) then ((0 : Int))
  else bif !(r_rLine_0 (IntKind.wrap IntKind.i64 x1) (IntKind.wrap IntKind.i64 x2) (IntKind.wrap IntKind.i64 x3) (IntKind.wrap IntKind.i64 x4) == x0 && (r_rLine_1 (IntKind.wrap IntKind.i64 x1) (IntKind.wrap IntKind.i64 x2) (IntKind.wrap IntKind.i64 x3) (IntKind.wrap IntKind.i64 x4) == x1 && (r_rLine_2 (IntKind.wrap IntKind.i64 x1) (IntKind.wrap IntKind.i64 x2) (IntKind.wrap IntKind.i64 x3) (IntKind.wrap IntKind.i64 x4) == x2 && (r_rLine_3 (IntKind.wrap IntKind.i64 x1) (IntKind.wrap IntKind.i64 x2) (IntKind.wrap IntKind.i64 x3) (IntKind.wrap IntKind.i64 x4) == x3 && (r_rLine_4 (IntKind.wrap IntKind.i64 x1) (IntKind.wrap IntKind.i64 x2) (IntKind.wrap IntKind.i64 x3) (IntKind.wrap IntKind.i64 x4) == x4 && (r_rLine_5 (IntKind.wrap IntKind.i64 x1) (IntKind.wrap IntKind.i64 x2) (IntKind.wrap IntKind.i64 x3) (IntKind.wrap IntKind.i64 x4) == x5 && (r_rLine_6 (IntKind.wrap IntKind.i64 x1) (IntKind.wrap IntKind.i64 x2) (IntKind.wrap IntKind.i64 x3) (IntKind.wrap IntKind.i64 x4) == x6 && (r_rLine_7 (IntKind.wrap IntKind.i64 x1) (IntKind.wrap IntKind.i64 x2) (IntKind.wrap IntKind.i64 x3) (IntKind.wrap IntKind.i64 x4) == x7 && true)))))))) then ((0 : Int))
  else IntKind.wrap IntKind.i64 x2)
  else 0
def r_rRead_2 (x0 : Int) (x1 : Int) (x2 : Int) (x3 : Int) (x4 : Int) (x5 : Int) (x6 : Int) (x7 : Int) : Int :=
  bif ok_rLine (IntKind.wrap IntKind.i64 x1) (IntKind.wrap IntKind.i64 x2) (IntKind.wrap IntKind.i64 x3) (IntKind.wrap IntKind.i64 x4) then (bif r_rLine_8 (IntKind.wrap IntKind.i64 x1) (IntKind.wrap IntKind.i64 x2) (IntKind.wrap IntKind.i64 x3) (IntKind.wrap IntKind.i64 x4) != (0 : Int) then ((0 : Int))
  else bif !(r_rLine_0 (IntKind.wrap IntKind.i64 x1) (IntKind.wrap IntKind.i64 x2) (IntKind.wrap IntKind.i64 x3) (IntKind.wrap IntKind.i64 x4) == x0 && (r_rLine_1 (IntKind.wrap IntKind.i64 x1) (IntKind.wrap IntKind.i64 x2) (IntKind.wrap IntKind.i64 x3) (IntKind.wrap IntKind.i64 x4) == x1 && (r_rLine_2 (IntKind.wrap IntKind.i64 x1) (IntKind.wrap IntKind.i64 x2) (IntKind.wrap IntKind.i64 x3) (IntKind.wrap IntKind.i64 x4) == x2 && (r_rLine_3 (IntKind.wrap IntKind.i64 x1) (IntKind.wrap IntKind.i64 x2) (IntKind.wrap IntKind.i64 x3) (IntKind.wrap IntKind.i64 x4) == x3 && (r_rLine_4 (IntKind.wrap IntKind.i64 x1) (IntKind.wrap IntKind.i64 x2) (IntKind.wrap IntKind.i64 x3) (IntKind.wrap IntKind.i64 x4) == x4 && (r_rLine_5 (IntKind.wrap IntKind.i64 x1) (IntKind.wrap IntKind.i64 x2) (IntKind.wrap IntKind.i64 x3) (IntKind.wrap IntKind.i64 x4) == x5 && (r_rLine_6 (IntKind.wrap IntKind.i64 x1) (IntKind.wrap IntKind.i64 x2) (IntKind.wrap IntKind.i64 x3) (IntKind.wrap IntKind.i64 x4) == x6 && (r_rLine_7 (IntKind.wrap IntKind.i64 x1) (IntKind.wrap IntKind.i64 x2) (IntKind.wrap IntKind.i64 x3) (IntKind.wrap IntKind.i64 x4) == x7 && true)))))))) then ((0 : Int))
  else IntKind.wrap IntKind.i64 x3)
  else 0
def r_rRead_3 (x0 : Int) (x1 : Int) (x2 : Int) (x3 : Int) (x4 : Int) (x5 : Int) (x6 : Int) (x7 : Int) : Int :=
  bif ok_rLine (IntKind.wrap IntKind.i64 x1) (IntKind.wrap IntKind.i64 x2) (IntKind.wrap IntKind.i64 x3) (IntKind.wrap IntKind.i64 x4) then (bif r_rLine_8 (IntKind.wrap IntKind.i64 x1) (IntKind.wrap IntKind.i64 x2) (IntKind.wrap IntKind.i64 x3) (IntKind.wrap IntKind.i64 x4) != (0 : Int) then ((0 : Int))
  else bif !(r_rLine_0 (IntKind.wrap IntKind.i64 x1) (IntKind.wrap IntKind.i64 x2) (IntKind.wrap IntKind.i64 x3) (IntKind.wrap IntKind.i64 x4) == x0 && (r_rLine_1 (IntKind.wrap IntKind.i64 x1) (IntKind.wrap IntKind.i64 x2) (IntKind.wrap IntKind.i64 x3) (IntKind.wrap IntKind.i64 x4) == x1 && (r_rLine_2 (IntKind.wrap IntKind.i64 x1) (IntKind.wrap IntKind.i64 x2) (IntKind.wrap IntKind.i64 x3) (IntKind.wrap IntKind.i64 x4) == x2 && (r_rLine_3 (IntKind.wrap IntKind.i64 x1) (IntKind.wrap IntKind.i64 x2) (IntKind.wrap IntKind.i64 x3) (IntKind.wrap IntKind.i64 x4) == x3 && (r_rLine_4 (IntKind.wrap IntKind.i64 x1) (IntKind.wrap IntKind.i64 x2) (IntKind.wrap IntKind.i64 x3) (IntKind.wrap IntKind.i64 x4) == x4 && (r_rLine_5 (IntKind.wrap IntKind.i64 x1) (IntKind.wrap IntKind.i64 x2) (IntKind.wrap IntKind.i64 x3) (IntKind.wrap IntKind.i64 x4) == x5 && (r_rLine_6 (IntKind.wrap IntKind.i64 x1) (IntKind.wrap IntKind.i64 x2) (IntKind.wrap IntKind.i64 x3) (IntKind.wrap IntKind.i64 x4) == x6 && (r_rLine_7 (IntKind.wrap IntKind.i64 x1) (IntKind.wrap IntKind.i64 x2) (IntKind.wrap IntKind.i64 x3) (IntKind.wrap IntKind.i64 x4) == x7 && true)))))))) then ((0 : Int))
  else IntKind.wrap IntKind.i64 x4)
  else 0
def r_rRead_4 (x0 : Int) (x1 : Int) (x2 : Int) (x3 : Int) (x4 : Int) (x5 : Int) (x6 : Int) (x7 : Int) : Bool :=
  bif ok_rLine (IntKind.wrap IntKind.i64 x1) (IntKind.wrap IntKind.i64 x2) (IntKind.wrap IntKind.i64 x3) (IntKind.wrap IntKind.i64 x4) then (bif r_rLine_8 (IntKind.wrap IntKind.i64 x1) (IntKind.wrap IntKind.i64 x2) (IntKind.wrap IntKind.i64 x3) (IntKind.wrap IntKind.i64 x4) != (0 : Int) then (false)
  else bif !(r_rLine_0 (IntKind.wrap IntKind.i64 x1) (IntKind.wrap IntKind.i64 x2) (IntKind.wrap IntKind.i64 x3) (IntKind.wrap IntKind.i64 x4) == x0 && (r_rLine_1 (IntKind.wrap IntKind.i64 x1) (IntKind.wrap IntKind.i64 x2) (IntKind.wrap IntKind.i64 x3) (IntKind.wrap IntKind.i64 x4) == x1 && (r_rLine_2 (IntKind.wrap IntKind.i64 x1) (IntKind.wrap IntKind.i64 x2) (IntKind.wrap IntKind.i64 x3) (IntKind.wrap IntKind.i64 x4) == x2 && (r_rLine_3 (IntKind.wrap IntKind.i64 x1) (IntKind.wrap IntKind.i64 x2) (IntKind.wrap IntKind.i64 x3) (IntKind.wrap IntKind.i64 x4) == x3 && (r_rLine_4 (IntKind.wrap IntKind.i64 x1) (IntKind.wrap IntKind.i64 x2) (IntKind.wrap IntKind.i64 x3) (IntKind.wrap IntKind.i64 x4) == x4 && (r_rLine_5 (IntKind.wrap IntKind.i64 x1) (IntKind.wrap IntKind.i64 x2) (IntKind.wrap IntKind.i64 x3) (IntKind.wrap IntKind.i64 x4) == x5 && (r_rLine_6 (IntKind.wrap IntKind.i64 x1) (IntKind.wrap IntKind.i64 x2) (IntKind.wrap IntKind.i64 x3) (IntKind.wrap IntKind.i64 x4) == x6 && (r_rLine_7 (IntKind.wrap IntKind.i64 x1) (IntKind.wrap IntKind.i64 x2) (IntKind.wrap IntKind.i64 x3) (IntKind.wrap IntKind.i64 x4) == x7 && true)))))))) then (false)
  else true)
  else false
def ok_rRead (x0 : Int) (x1 : Int) (x2 : Int) (x3 : Int) (x4 : Int) (x5 : Int) (x6 : Int) (x7 : Int) : Bool :=
  bif ok_rLine (IntKind.wrap IntKind.i64 x1) (IntKind.wrap IntKind.i64 x2) (IntKind.wrap IntKind.i64 x3) (IntKind.wrap IntKind.i64 x4) then (bif r_rLine_8 (IntKind.wrap IntKind.i64 x1) (IntKind.wrap IntKind.i64 x2) (IntKind.wrap IntKind.i64 x3) (IntKind.wrap IntKind.i64 x4) != (0 : Int) then (true)
  else bif !(r_rLine_0 (IntKind.wrap IntKind.i64 x1) (IntKind.wrap IntKind.i64 x2) (IntKind.wrap IntKind.i64 x3) (IntKind.wrap IntKind.i64 x4) == x0 && (r_rLine_1 (IntKind.wrap IntKind.i64 x1) (IntKind.wrap IntKind.i64 x2) (IntKind.wrap IntKind.i64 x3) (IntKind.wrap IntKind.i64 x4) == x1 && (r_rLine_2 (IntKind.wrap IntKind.i64 x1) (IntKind.wrap IntKind.i64 x2) (IntKind.wrap IntKind.i64 x3) (IntKind.wrap IntKind.i64 x4) == x2 && (r_rLine_3 (IntKind.wrap IntKind.i64 x1) (IntKind.wrap IntKind.i64 x2) (IntKind.wrap IntKind.i64 x3) (IntKind.wrap IntKind.i64 x4) == x3 && (r_rLine_4 (IntKind.wrap IntKind.i64 x1) (IntKind.wrap IntKind.i64 x2) (IntKind.wrap IntKind.i64 x3) (IntKind.wrap IntKind.i64 x4) == x4 && (r_rLine_5 (IntKind.wrap IntKind.i64 x1) (IntKind.wrap IntKind.i64 x2) (IntKind.wrap IntKind.i64 x3) (IntKind.wrap IntKind.i64 x4) == x5 && (r_rLine_6 (IntKind.wrap IntKind.i64 x1) (IntKind.wrap IntKind.i64 x2) (IntKind.wrap IntKind.i64 x3) (IntKind.wrap IntKind.i64 x4) == x6 && (r_rLine_7 (IntKind.wrap IntKind.i64 x1) (IntKind.wrap IntKind.i64 x2) (IntKind.wrap IntKind.i64 x3) (IntKind.wrap IntKind.i64 x4) == x7 && true)))))))) then (true)
  else true)
  else false
def F_rRead : List At → Tr (List At) := fun l => .br 0 (ok_rRead (aI l 0) (aI l 1) (aI l 2) (aI l 3) (aI l 4) (aI l 5) (aI l 6) (aI l 7)) (.ok [.i (r_rRead_0 (aI l 0) (aI l 1) (aI l 2) (aI l 3) (aI l 4) (aI l 5) (aI l 6) (aI l 7)), .i (r_rRead_1 (aI l 0) (aI l 1) (aI l 2) (aI l 3) (aI l 4) (aI l 5) (aI l 6) (aI l 7)), .i (r_rRead_2 (aI l 0) (aI l 1) (aI l 2) (aI l 3) (aI l 4) (aI l 5) (aI l 6) (aI l 7)), .i (r_rRead_3 (aI l 0) (aI l 1) (aI l 2) (aI l 3) (aI l 4) (aI l 5) (aI l 6) (aI l 7)), .b (r_rRead_4 (aI l 0) (aI l 1) (aI l 2) (aI l 3) (aI l 4) (aI l 5) (aI l 6) (aI l 7))]) .no
theorem s_rRead : SpecF Try.prog 14 (.pure (locP ish_rRead osh_rRead F_rRead)) :=
  spec_locP (sy := y_rRead) (fuel := 100) (Lp := noLoops) o_sRead mixed ⟨Try.func14, by kernel_rfl, by kernel_rfl⟩ ish_rRead osh_rRead rfl (noLoops_ok _) (hT_merged [.i, .i, .i, .i, .b] e_rRead (fun l => by kernel_rfl) (fun l => by kernel_rfl))
def Γ_rRead : Specs := upd Γ_sRead 14 (.pure (locP ish_rRead osh_rRead F_rRead))
theorem o_rRead : SpecOK Try.prog Γ_rRead := SpecOK.upd o_sRead s_rRead

/-! ### sBest -/

def ish_sBest : FSh := ⟨[.v true [.k (.n .u64), .k (.n .u64), .k (.n .u64), .k (.n .u64), .k (.n .u64), .k (.n .u64), .k (.n .u64), .k (.n .u64)], .v true [.k (.n .u64), .k (.n .u64), .k (.n .u64), .k (.n .u64), .k (.n .u64), .k (.n .u64), .k (.n .u64), .k (.n .u64)]], []⟩
def osh_sBest : FSh := ⟨[.tup [(true, [.k (.n .i64), .k (.n .i64), .k (.n .i64), .k (.n .i64)]), (false, [.k (.n .i64)]), (false, [.k .b])]], []⟩
def T_sBest (x0 : Int) (x1 : Int) (x2 : Int) (x3 : Int) (x4 : Int) (x5 : Int) (x6 : Int) (x7 : Int) (x8 : Int) (x9 : Int) (x10 : Int) (x11 : Int) (x12 : Int) (x13 : Int) (x14 : Int) (x15 : Int) : Tr (List At) :=
 .br 0 (ok_sRead x0 x1 x2 x3 x4 x5 x6 x7)
 (.br 24 (r_sRead_4 x0 x1 x2 x3 x4 x5 x6 x7)
 (.br 34 (true)
 (.br 0 (ok_sRead x8 x9 x10 x11 x12 x13 x14 x15)
 (.br 24 (r_sRead_4 x8 x9 x10 x11 x12 x13 x14 x15)
 (.br 34 (decide (r_sRead_0 x8 x9 x10 x11 x12 x13 x14 x15 > r_sRead_0 x0 x1 x2 x3 x4 x5 x6 x7))
 (.ok [(.i (r_sRead_0 x8 x9 x10 x11 x12 x13 x14 x15)), (.i (r_sRead_1 x8 x9 x10 x11 x12 x13 x14 x15)), (.i (r_sRead_2 x8 x9 x10 x11 x12 x13 x14 x15)), (.i (r_sRead_3 x8 x9 x10 x11 x12 x13 x14 x15)), (.i ((1 : Int))), (.b (true))])
 (.ok [(.i (r_sRead_0 x0 x1 x2 x3 x4 x5 x6 x7)), (.i (r_sRead_1 x0 x1 x2 x3 x4 x5 x6 x7)), (.i (r_sRead_2 x0 x1 x2 x3 x4 x5 x6 x7)), (.i (r_sRead_3 x0 x1 x2 x3 x4 x5 x6 x7)), (.i ((0 : Int))), (.b (true))]))
 (.ok [(.i (r_sRead_0 x0 x1 x2 x3 x4 x5 x6 x7)), (.i (r_sRead_1 x0 x1 x2 x3 x4 x5 x6 x7)), (.i (r_sRead_2 x0 x1 x2 x3 x4 x5 x6 x7)), (.i (r_sRead_3 x0 x1 x2 x3 x4 x5 x6 x7)), (.i ((0 : Int))), (.b (true))]))
 (.no))
 (.br 0 (ok_sRead x8 x9 x10 x11 x12 x13 x14 x15)
 (.br 24 (r_sRead_4 x8 x9 x10 x11 x12 x13 x14 x15)
 (.br 34 (true)
 (.ok [(.i (r_sRead_0 x8 x9 x10 x11 x12 x13 x14 x15)), (.i (r_sRead_1 x8 x9 x10 x11 x12 x13 x14 x15)), (.i (r_sRead_2 x8 x9 x10 x11 x12 x13 x14 x15)), (.i (r_sRead_3 x8 x9 x10 x11 x12 x13 x14 x15)), (.i ((1 : Int))), (.b (true))])
 (.ok [(.i ((0 : Int))), (.i ((0 : Int))), (.i ((0 : Int))), (.i ((0 : Int))), (.i ((0 : Int))), (.b (false))]))
 (.ok [(.i ((0 : Int))), (.i ((0 : Int))), (.i ((0 : Int))), (.i ((0 : Int))), (.i ((0 : Int))), (.b (false))]))
 (.no)))
 (.br 0 (ok_sRead x8 x9 x10 x11 x12 x13 x14 x15)
 (.br 24 (r_sRead_4 x8 x9 x10 x11 x12 x13 x14 x15)
 (.br 34 (true)
 (.ok [(.i (r_sRead_0 x8 x9 x10 x11 x12 x13 x14 x15)), (.i (r_sRead_1 x8 x9 x10 x11 x12 x13 x14 x15)), (.i (r_sRead_2 x8 x9 x10 x11 x12 x13 x14 x15)), (.i (r_sRead_3 x8 x9 x10 x11 x12 x13 x14 x15)), (.i ((1 : Int))), (.b (true))])
 (.ok [(.i ((0 : Int))), (.i ((0 : Int))), (.i ((0 : Int))), (.i ((0 : Int))), (.i ((0 : Int))), (.b (false))]))
 (.ok [(.i ((0 : Int))), (.i ((0 : Int))), (.i ((0 : Int))), (.i ((0 : Int))), (.i ((0 : Int))), (.b (false))]))
 (.no)))
 (.no)
def y_sBest : Nat → Option Nat := syOf3 [24, 34] [] []
def TL_sBest (l : List At) : Tr (List At) := T_sBest (aI l 0) (aI l 1) (aI l 2) (aI l 3) (aI l 4) (aI l 5) (aI l 6) (aI l 7) (aI l 8) (aI l 9) (aI l 10) (aI l 11) (aI l 12) (aI l 13) (aI l 14) (aI l 15)
theorem e_sBest (l : List At) : (call Try.prog Γ_rRead y_sBest noLoops 100 Try.f15 (mkV ish_sBest l) (mkH ish_sBest l)).bind (leafO 0 osh_sBest) = TL_sBest l := by kernel_rfl
def r_sBest_0 (x0 : Int) (x1 : Int) (x2 : Int) (x3 : Int) (x4 : Int) (x5 : Int) (x6 : Int) (x7 : Int) (x8 : Int) (x9 : Int) (x10 : Int) (x11 : Int) (x12 : Int) (x13 : Int) (x14 : Int) (x15 : Int) : Int :=
  bif ok_sRead x0 x1 x2 x3 x4 x5 x6 x7 then (bif r_sRead_4 x0 x1 x2 x3 x4 x5 x6 x7 then (bif true then (bif ok_sRead x8 x9 x10 x11 x12 x13 x14 x15 then (bif r_sRead_4 x8 x9 x10 x11 x12 x13 x14 x15 then (bif decide (r_sRead_0 x8 x9 x10 x11 x12 x13 x14 x15 > r_sRead_0 x0 x1 x2 x3 x4 x5 x6 x7) then (r_sRead_0 x8 x9 x10 x11 x12 x13 x14 x15)
  else r_sRead_0 x0 x1 x2 x3 x4 x5 x6 x7)
  else r_sRead_0 x0 x1 x2 x3 x4 x5 x6 x7)
  else 0)
  else bif ok_sRead x8 x9 x10 x11 x12 x13 x14 x15 then (bif r_sRead_4 x8 x9 x10 x11 x12 x13 x14 x15 then (bif true then (r_sRead_0 x8 x9 x10 x11 x12 x13 x14 x15)
  else (0 : Int))
  else (0 : Int))
  else 0)
  else bif ok_sRead x8 x9 x10 x11 x12 x13 x14 x15 then (bif r_sRead_4 x8 x9 x10 x11 x12 x13 x14 x15 then (bif true then (r_sRead_0 x8 x9 x10 x11 x12 x13 x14 x15)
  else (0 : Int))
  else (0 : Int))
  else 0)
  else 0
def r_sBest_1 (x0 : Int) (x1 : Int) (x2 : Int) (x3 : Int) (x4 : Int) (x5 : Int) (x6 : Int) (x7 : Int) (x8 : Int) (x9 : Int) (x10 : Int) (x11 : Int) (x12 : Int) (x13 : Int) (x14 : Int) (x15 : Int) : Int :=
  bif ok_sRead x0 x1 x2 x3 x4 x5 x6 x7 then (bif r_sRead_4 x0 x1 x2 x3 x4 x5 x6 x7 then (bif true then (bif ok_sRead x8 x9 x10 x11 x12 x13 x14 x15 then (bif r_sRead_4 x8 x9 x10 x11 x12 x13 x14 x15 then (bif decide (r_sRead_0 x8 x9 x10 x11 x12 x13 x14 x15 > r_sRead_0 x0 x1 x2 x3 x4 x5 x6 x7) then (r_sRead_1 x8 x9 x10 x11 x12 x13 x14 x15)
  else r_sRead_1 x0 x1 x2 x3 x4 x5 x6 x7)
  else r_sRead_1 x0 x1 x2 x3 x4 x5 x6 x7)
  else 0)
  else bif ok_sRead x8 x9 x10 x11 x12 x13 x14 x15 then (bif r_sRead_4 x8 x9 x10 x11 x12 x13 x14 x15 then (bif true then (r_sRead_1 x8 x9 x10 x11 x12 x13 x14 x15)
  else (0 : Int))
  else (0 : Int))
  else 0)
  else bif ok_sRead x8 x9 x10 x11 x12 x13 x14 x15 then (bif r_sRead_4 x8 x9 x10 x11 x12 x13 x14 x15 then (bif true then (r_sRead_1 x8 x9 x10 x11 x12 x13 x14 x15)
  else (0 : Int))
  else (0 : Int))
  else 0)
  else 0
def r_sBest_2 (x0 : Int) (x1 : Int) (x2 : Int) (x3 : Int) (x4 : Int) (x5 : Int) (x6 : Int) (x7 : Int) (x8 : Int) (x9 : Int) (x10 : Int) (x11 : Int) (x12 : Int) (x13 : Int) (x14 : Int) (x15 : Int) : Int :=
  bif ok_sRead x0 x1 x2 x3 x4 x5 x6 x7 then (bif r_sRead_4 x0 x1 x2 x3 x4 x5 x6 x7 then (bif true then (bif ok_sRead x8 x9 x10 x11 x12 x13 x14 x15 then (bif r_sRead_4 x8 x9 x10 x11 x12 x13 x14 x15 then (bif decide (r_sRead_0 x8 x9 x10 x11 x12 x13 x14 x15 > r_sRead_0 x0 x1 x2 x3 x4 x5 x6 x7) then (r_sRead_2 x8 x9 x10 x11 x12 x13 x14 x15)
  else r_sRead_2 x0 x1 x2 x3 x4 x5 x6 x7)
  else r_sRead_2 x0 x1 x2 x3 x4 x5 x6 x7)
  else 0)
  else bif ok_sRead x8 x9 x10 x11 x12 x13 x14 x15 then (bif r_sRead_4 x8 x9 x10 x11 x12 x13 x14 x15 then (bif true then (r_sRead_2 x8 x9 x10 x11 x12 x13 x14 x15)
  else (0 : Int))
  else (0 : Int))
  else 0)
  else bif ok_sRead x8 x9 x10 x11 x12 x13 x14 x15 then (bif r_sRead_4 x8 x9 x10 x11 x12 x13 x14 x15 then (bif true then (r_sRead_2 x8 x9 x10 x11 x12 x13 x14 x15)
  else (0 : Int))
  else (0 : Int))
  else 0)
  else 0
def r_sBest_3 (x0 : Int) (x1 : Int) (x2 : Int) (x3 : Int) (x4 : Int) (x5 : Int) (x6 : Int) (x7 : Int) (x8 : Int) (x9 : Int) (x10 : Int) (x11 : Int) (x12 : Int) (x13 : Int) (x14 : Int) (x15 : Int) : Int :=
  bif ok_sRead x0 x1 x2 x3 x4 x5 x6 x7 then (bif r_sRead_4 x0 x1 x2 x3 x4 x5 x6 x7 then (bif true then (bif ok_sRead x8 x9 x10 x11 x12 x13 x14 x15 then (bif r_sRead_4 x8 x9 x10 x11 x12 x13 x14 x15 then (bif decide (r_sRead_0 x8 x9 x10 x11 x12 x13 x14 x15 > r_sRead_0 x0 x1 x2 x3 x4 x5 x6 x7) then (r_sRead_3 x8 x9 x10 x11 x12 x13 x14 x15)
  else r_sRead_3 x0 x1 x2 x3 x4 x5 x6 x7)
  else r_sRead_3 x0 x1 x2 x3 x4 x5 x6 x7)
  else 0)
  else bif ok_sRead x8 x9 x10 x11 x12 x13 x14 x15 then (bif r_sRead_4 x8 x9 x10 x11 x12 x13 x14 x15 then (bif true then (r_sRead_3 x8 x9 x10 x11 x12 x13 x14 x15)
  else (0 : Int))
  else (0 : Int))
  else 0)
  else bif ok_sRead x8 x9 x10 x11 x12 x13 x14 x15 then (bif r_sRead_4 x8 x9 x10 x11 x12 x13 x14 x15 then (bif true then (r_sRead_3 x8 x9 x10 x11 x12 x13 x14 x15)
  else (0 : Int))
  else (0 : Int))
  else 0)
  else 0
def r_sBest_4 (x0 : Int) (x1 : Int) (x2 : Int) (x3 : Int) (x4 : Int) (x5 : Int) (x6 : Int) (x7 : Int) (x8 : Int) (x9 : Int) (x10 : Int) (x11 : Int) (x12 : Int) (x13 : Int) (x14 : Int) (x15 : Int) : Int :=
  bif ok_sRead x0 x1 x2 x3 x4 x5 x6 x7 then (bif r_sRead_4 x0 x1 x2 x3 x4 x5 x6 x7 then (bif true then (bif ok_sRead x8 x9 x10 x11 x12 x13 x14 x15 then (bif r_sRead_4 x8 x9 x10 x11 x12 x13 x14 x15 then (bif decide (r_sRead_0 x8 x9 x10 x11 x12 x13 x14 x15 > r_sRead_0 x0 x1 x2 x3 x4 x5 x6 x7) then ((1 : Int))
  else (0 : Int))
  else (0 : Int))
  else 0)
  else bif ok_sRead x8 x9 x10 x11 x12 x13 x14 x15 then (bif r_sRead_4 x8 x9 x10 x11 x12 x13 x14 x15 then (bif true then ((1 : Int))
  else (0 : Int))
  else (0 : Int))
  else 0)
  else bif ok_sRead x8 x9 x10 x11 x12 x13 x14 x15 then (bif r_sRead_4 x8 x9 x10 x11 x12 x13 x14 x15 then (bif true then ((1 : Int))
  else (0 : Int))
  else (0 : Int))
  else 0)
  else 0
def r_sBest_5 (x0 : Int) (x1 : Int) (x2 : Int) (x3 : Int) (x4 : Int) (x5 : Int) (x6 : Int) (x7 : Int) (x8 : Int) (x9 : Int) (x10 : Int) (x11 : Int) (x12 : Int) (x13 : Int) (x14 : Int) (x15 : Int) : Bool :=
  bif ok_sRead x0 x1 x2 x3 x4 x5 x6 x7 then (bif r_sRead_4 x0 x1 x2 x3 x4 x5 x6 x7 then (bif true then (bif ok_sRead x8 x9 x10 x11 x12 x13 x14 x15 then (bif r_sRead_4 x8 x9 x10 x11 x12 x13 x14 x15 then (bif decide (r_sRead_0 x8 x9 x10 x11 x12 x13 x14 x15 > r_sRead_0 x0 x1 x2 x3 x4 x5 x6 x7) then (true)
  else true)
  else true)
  else false)
  else bif ok_sRead x8 x9 x10 x11 x12 x13 x14 x15 then (bif r_sRead_4 x8 x9 x10 x11 x12 x13 x14 x15 then (bif true then (true)
  else false)
  else false)
  else false)
  else bif ok_sRead x8 x9 x10 x11 x12 x13 x14 x15 then (bif r_sRead_4 x8 x9 x10 x11 x12 x13 x14 x15 then (bif true then (true)
  else false)
  else false)
  else false)
  else false
def ok_sBest (x0 : Int) (x1 : Int) (x2 : Int) (x3 : Int) (x4 : Int) (x5 : Int) (x6 : Int) (x7 : Int) (x8 : Int) (x9 : Int) (x10 : Int) (x11 : Int) (x12 : Int) (x13 : Int) (x14 : Int) (x15 : Int) : Bool :=
  bif ok_sRead x0 x1 x2 x3 x4 x5 x6 x7 then (bif r_sRead_4 x0 x1 x2 x3 x4 x5 x6 x7 then (bif true then (bif ok_sRead x8 x9 x10 x11 x12 x13 x14 x15 then (bif r_sRead_4 x8 x9 x10 x11 x12 x13 x14 x15 then (bif decide (r_sRead_0 x8 x9 x10 x11 x12 x13 x14 x15 > r_sRead_0 x0 x1 x2 x3 x4 x5 x6 x7) then (true)
  else true)
  else true)
  else false)
  else bif ok_sRead x8 x9 x10 x11 x12 x13 x14 x15 then (bif r_sRead_4 x8 x9 x10 x11 x12 x13 x14 x15 then (bif true then (true)
  else true)
  else true)
  else false)
  else bif ok_sRead x8 x9 x10 x11 x12 x13 x14 x15 then (bif r_sRead_4 x8 x9 x10 x11 x12 x13 x14 x15 then (bif true then (true)
  else true)
  else true)
  else false)
  else false
def F_sBest : List At → Tr (List At) := fun l => .br 0 (ok_sBest (aI l 0) (aI l 1) (aI l 2) (aI l 3) (aI l 4) (aI l 5) (aI l 6) (aI l 7) (aI l 8) (aI l 9) (aI l 10) (aI l 11) (aI l 12) (aI l 13) (aI l 14) (aI l 15)) (.ok [.i (r_sBest_0 (aI l 0) (aI l 1) (aI l 2) (aI l 3) (aI l 4) (aI l 5) (aI l 6) (aI l 7) (aI l 8) (aI l 9) (aI l 10) (aI l 11) (aI l 12) (aI l 13) (aI l 14) (aI l 15)), .i (r_sBest_1 (aI l 0) (aI l 1) (aI l 2) (aI l 3) (aI l 4) (aI l 5) (aI l 6) (aI l 7) (aI l 8) (aI l 9) (aI l 10) (aI l 11) (aI l 12) (aI l 13) (aI l 14) (aI l 15)), .i (r_sBest_2 (aI l 0) (aI l 1) (aI l 2) (aI l 3) (aI l 4) (aI l 5) (aI l 6) (aI l 7) (aI l 8) (aI l 9) (aI l 10) (aI l 11) (aI l 12) (aI l 13) (aI l 14) (aI l 15)), .i (r_sBest_3 (aI l 0) (aI l 1) (aI l 2) (aI l 3) (aI l 4) (aI l 5) (aI l 6) (aI l 7) (aI l 8) (aI l 9) (aI l 10) (aI l 11) (aI l 12) (aI l 13) (aI l 14) (aI l 15)), .i (r_sBest_4 (aI l 0) (aI l 1) (aI l 2) (aI l 3) (aI l 4) (aI l 5) (aI l 6) (aI l 7) (aI l 8) (aI l 9) (aI l 10) (aI l 11) (aI l 12) (aI l 13) (aI l 14) (aI l 15)), .b (r_sBest_5 (aI l 0) (aI l 1) (aI l 2) (aI l 3) (aI l 4) (aI l 5) (aI l 6) (aI l 7) (aI l 8) (aI l 9) (aI l 10) (aI l 11) (aI l 12) (aI l 13) (aI l 14) (aI l 15))]) .no
theorem s_sBest : SpecF Try.prog 15 (.pure (locP ish_sBest osh_sBest F_sBest)) :=
  spec_locP (sy := y_sBest) (fuel := 100) (Lp := noLoops) o_rRead mixed ⟨Try.func15, by kernel_rfl, by kernel_rfl⟩ ish_sBest osh_sBest rfl (noLoops_ok _) (hT_merged [.i, .i, .i, .i, .i, .b] e_sBest (fun l => by kernel_rfl) (fun l => by kernel_rfl))
def Γ_sBest : Specs := upd Γ_rRead 15 (.pure (locP ish_sBest osh_sBest F_sBest))
theorem o_sBest : SpecOK Try.prog Γ_sBest := SpecOK.upd o_rRead s_sBest

/-! ### rBest -/

def ish_rBest : FSh := ⟨[.v true [.k (.n .u64), .k (.n .u64), .k (.n .u64), .k (.n .u64), .k (.n .u64), .k (.n .u64), .k (.n .u64), .k (.n .u64)], .v true [.k (.n .u64), .k (.n .u64), .k (.n .u64), .k (.n .u64), .k (.n .u64), .k (.n .u64), .k (.n .u64), .k (.n .u64)]], []⟩
def osh_rBest : FSh := ⟨[.tup [(true, [.k (.n .i64), .k (.n .i64), .k (.n .i64), .k (.n .i64)]), (false, [.k (.n .i64)]), (false, [.k .b])]], []⟩
def T_rBest (x0 : Int) (x1 : Int) (x2 : Int) (x3 : Int) (x4 : Int) (x5 : Int) (x6 : Int) (x7 : Int) (x8 : Int) (x9 : Int) (x10 : Int) (x11 : Int) (x12 : Int) (x13 : Int) (x14 : Int) (x15 : Int) : Tr (List At) :=
 .br 0 (ok_rRead x0 x1 x2 x3 x4 x5 x6 x7)
 (.br 0 (ok_rRead x8 x9 x10 x11 x12 x13 x14 x15)
 (.br 22 (r_rRead_4 x8 x9 x10 x11 x12 x13 x14 x15)
 (.br 25 (!r_rRead_4 x0 x1 x2 x3 x4 x5 x6 x7)
 (.ok [(.i (r_rRead_0 x8 x9 x10 x11 x12 x13 x14 x15)), (.i (r_rRead_1 x8 x9 x10 x11 x12 x13 x14 x15)), (.i (r_rRead_2 x8 x9 x10 x11 x12 x13 x14 x15)), (.i (r_rRead_3 x8 x9 x10 x11 x12 x13 x14 x15)), (.i ((1 : Int))), (.b (true))])
 (.br 32 (decide (r_rRead_0 x8 x9 x10 x11 x12 x13 x14 x15 > r_rRead_0 x0 x1 x2 x3 x4 x5 x6 x7))
 (.ok [(.i (r_rRead_0 x8 x9 x10 x11 x12 x13 x14 x15)), (.i (r_rRead_1 x8 x9 x10 x11 x12 x13 x14 x15)), (.i (r_rRead_2 x8 x9 x10 x11 x12 x13 x14 x15)), (.i (r_rRead_3 x8 x9 x10 x11 x12 x13 x14 x15)), (.i ((1 : Int))), (.b (true))])
 (.ok [(.i (r_rRead_0 x0 x1 x2 x3 x4 x5 x6 x7)), (.i (r_rRead_1 x0 x1 x2 x3 x4 x5 x6 x7)), (.i (r_rRead_2 x0 x1 x2 x3 x4 x5 x6 x7)), (.i (r_rRead_3 x0 x1 x2 x3 x4 x5 x6 x7)), (.i ((0 : Int))), (.b (r_rRead_4 x0 x1 x2 x3 x4 x5 x6 x7))])))
 (.ok [(.i (r_rRead_0 x0 x1 x2 x3 x4 x5 x6 x7)), (.i (r_rRead_1 x0 x1 x2 x3 x4 x5 x6 x7)), (.i (r_rRead_2 x0 x1 x2 x3 x4 x5 x6 x7)), (.i (r_rRead_3 x0 x1 x2 x3 x4 x5 x6 x7)), (.i ((0 : Int))), (.b (r_rRead_4 x0 x1 x2 x3 x4 x5 x6 x7))]))
 (.no))
 (.no)
def y_rBest : Nat → Option Nat := syOf3 [22, 25, 32] [] []
def TL_rBest (l : List At) : Tr (List At) := T_rBest (aI l 0) (aI l 1) (aI l 2) (aI l 3) (aI l 4) (aI l 5) (aI l 6) (aI l 7) (aI l 8) (aI l 9) (aI l 10) (aI l 11) (aI l 12) (aI l 13) (aI l 14) (aI l 15)
theorem e_rBest (l : List At) : (call Try.prog Γ_sBest y_rBest noLoops 100 Try.f16 (mkV ish_rBest l) (mkH ish_rBest l)).bind (leafO 0 osh_rBest) = TL_rBest l := by kernel_rfl
def r_rBest_0 (x0 : Int) (x1 : Int) (x2 : Int) (x3 : Int) (x4 : Int) (x5 : Int) (x6 : Int) (x7 : Int) (x8 : Int) (x9 : Int) (x10 : Int) (x11 : Int) (x12 : Int) (x13 : Int) (x14 : Int) (x15 : Int) : Int :=
  bif ok_rRead x0 x1 x2 x3 x4 x5 x6 x7 then (bif ok_rRead x8 x9 x10 x11 x12 x13 x14 x15 then (bif r_rRead_4 x8 x9 x10 x11 x12 x13 x14 x15 then (bif !r_rRead_4 x0 x1 x2 x3 x4 x5 x6 x7 then (r_rRead_0 x8 x9 x10 x11 x12 x13 x14 x15)
  else bif decide (r_rRead_0 x8 x9 x10 x11 x12 x13 x14 x15 > r_rRead_0 x0 x1 x2 x3 x4 x5 x6 x7) then (r_rRead_0 x8 x9 x10 x11 x12 x13 x14 x15)
  else r_rRead_0 x0 x1 x2 x3 x4 x5 x6 x7)
  else r_rRead_0 x0 x1 x2 x3 x4 x5 x6 x7)
  else 0)
  else 0
def r_rBest_1 (x0 : Int) (x1 : Int) (x2 : Int) (x3 : Int) (x4 : Int) (x5 : Int) (x6 : Int) (x7 : Int) (x8 : Int) (x9 : Int) (x10 : Int) (x11 : Int) (x12 : Int) (x13 : Int) (x14 : Int) (x15 : Int) : Int :=
  bif ok_rRead x0 x1 x2 x3 x4 x5 x6 x7 then (bif ok_rRead x8 x9 x10 x11 x12 x13 x14 x15 then (bif r_rRead_4 x8 x9 x10 x11 x12 x13 x14 x15 then (bif !r_rRead_4 x0 x1 x2 x3 x4 x5 x6 x7 then (r_rRead_1 x8 x9 x10 x11 x12 x13 x14 x15)
  else bif decide (r_rRead_0 x8 x9 x10 x11 x12 x13 x14 x15 > r_rRead_0 x0 x1 x2 x3 x4 x5 x6 x7) then (r_rRead_1 x8 x9 x10 x11 x12 x13 x14 x15)
  else r_rRead_1 x0 x1 x2 x3 x4 x5 x6 x7)
  else r_rRead_1 x0 x1 x2 x3 x4 x5 x6 x7)
  else 0)
  else 0
def r_rBest_2 (x0 : Int) (x1 : Int) (x2 : Int) (x3 : Int) (x4 : Int) (x5 : Int) (x6 : Int) (x7 : Int) (x8 : Int) (x9 : Int) (x10 : Int) (x11 : Int) (x12 : Int) (x13 : Int) (x14 : Int) (x15 : Int) : Int :=
  bif ok_rRead x0 x1 x2 x3 x4 x5 x6 x7 then (bif ok_rRead x8 x9 x10 x11 x12 x13 x14 x15 then (bif r_rRead_4 x8 x9 x10 x11 x12 x13 x14 x15 then (bif !r_rRead_4 x0 x1 x2 x3 x4 x5 x6 x7 then (r_rRead_2 x8 x9 x10 x11 x12 x13 x14 x15)
  else bif decide (r_rRead_0 x8 x9 x10 x11 x12 x13 x14 x15 > r_rRead_0 x0 x1 x2 x3 x4 x5 x6 x7) then (r_rRead_2 x8 x9 x10 x11 x12 x13 x14 x15)
  else r_rRead_2 x0 x1 x2 x3 x4 x5 x6 x7)
  else r_rRead_2 x0 x1 x2 x3 x4 x5 x6 x7)
  else 0)
  else 0
def r_rBest_3 (x0 : Int) (x1 : Int) (x2 : Int) (x3 : Int) (x4 : Int) (x5 : Int) (x6 : Int) (x7 : Int) (x8 : Int) (x9 : Int) (x10 : Int) (x11 : Int) (x12 : Int) (x13 : Int) (x14 : Int) (x15 : Int) : Int :=
  bif ok_rRead x0 x1 x2 x3 x4 x5 x6 x7 then (bif ok_rRead x8 x9 x10 x11 x12 x13 x14 x15 then (bif r_rRead_4 x8 x9 x10 x11 x12 x13 x14 x15 then (bif !r_rRead_4 x0 x1 x2 x3 x4 x5 x6 x7 then (r_rRead_3 x8 x9 x10 x11 x12 x13 x14 x15)
  else bif decide (r_rRead_0 x8 x9 x10 x11 x12 x13 x14 x15 > r_rRead_0 x0 x1 x2 x3 x4 x5 x6 x7) then (r_rRead_3 x8 x9 x10 x11 x12 x13 x14 x15)
  else r_rRead_3 x0 x1 x2 x3 x4 x5 x6 x7)
  else r_rRead_3 x0 x1 x2 x3 x4 x5 x6 x7)
  else 0)
  else 0
def r_rBest_4 (x0 : Int) (x1 : Int) (x2 : Int) (x3 : Int) (x4 : Int) (x5 : Int) (x6 : Int) (x7 : Int) (x8 : Int) (x9 : Int) (x10 : Int) (x11 : Int) (x12 : Int) (x13 : Int) (x14 : Int) (x15 : Int) : Int :=
  bif ok_rRead x0 x1 x2 x3 x4 x5 x6 x7 then (bif ok_rRead x8 x9 x10 x11 x12 x13 x14 x15 then (bif r_rRead_4 x8 x9 x10 x11 x12 x13 x14 x15 then (bif !r_rRead_4 x0 x1 x2 x3 x4 x5 x6 x7 then ((1 : Int))
  else bif decide (r_rRead_0 x8 x9 x10 x11 x12 x13 x14 x15 > r_rRead_0 x0 x1 x2 x3 x4 x5 x6 x7) then ((1 : Int))
  else (0 : Int))
  else (0 : Int))
  else 0)
  else 0
def r_rBest_5 (x0 : Int) (x1 : Int) (x2 : Int) (x3 : Int) (x4 : Int) (x5 : Int) (x6 : Int) (x7 : Int) (x8 : Int) (x9 : Int) (x10 : Int) (x11 : Int) (x12 : Int) (x13 : Int) (x14 : Int) (x15 : Int) : Bool :=
  bif ok_rRead x0 x1 x2 x3 x4 x5 x6 x7 then (bif ok_rRead x8 x9 x10 x11 x12 x13 x14 x15 then (bif r_rRead_4 x8 x9 x10 x11 x12 x13 x14 x15 then (bif !r_rRead_4 x0 x1 x2 x3 x4 x5 x6 x7 then (true)
  else bif decide (r_rRead_0 x8 x9 x10 x11 x12 x13 x14 x15 > r_rRead_0 x0 x1 x2 x3 x4 x5 x6 x7) then (true)
  else r_rRead_4 x0 x1 x2 x3 x4 x5 x6 x7)
  else r_rRead_4 x0 x1 x2 x3 x4 x5 x6 x7)
  else false)
  else false
def ok_rBest (x0 : Int) (x1 : Int) (x2 : Int) (x3 : Int) (x4 : Int) (x5 : Int) (x6 : Int) (x7 : Int) (x8 : Int) (x9 : Int) (x10 : Int) (x11 : Int) (x12 : Int) (x13 : Int) (x14 : Int) (x15 : Int) : Bool :=
  bif ok_rRead x0 x1 x2 x3 x4 x5 x6 x7 then (bif ok_rRead x8 x9 x10 x11 x12 x13 x14 x15 then (bif r_rRead_4 x8 x9 x10 x11 x12 x13 x14 x15 then (bif !r_rRead_4 x0 x1 x2 x3 x4 x5 x6 x7 then (true)
  else bif decide (r_rRead_0 x8 x9 x10 x11 x12 x13 x14 x15 > r_rRead_0 x0 x1 x2 x3 x4 x5 x6 x7) then (true)
  else true)
  else true)
  else false)
  else false
def F_rBest : List At → Tr (List At) := fun l => .br 0 (ok_rBest (aI l 0) (aI l 1) (aI l 2) (aI l 3) (aI l 4) (aI l 5) (aI l 6) (aI l 7) (aI l 8) (aI l 9) (aI l 10) (aI l 11) (aI l 12) (aI l 13) (aI l 14) (aI l 15)) (.ok [.i (r_rBest_0 (aI l 0) (aI l 1) (aI l 2) (aI l 3) (aI l 4) (aI l 5) (aI l 6) (aI l 7) (aI l 8) (aI l 9) (aI l 10) (aI l 11) (aI l 12) (aI l 13) (aI l 14) (aI l 15)), .i (r_rBest_1 (aI l 0) (aI l 1) (aI l 2) (aI l 3) (aI l 4) (aI l 5) (aI l 6) (aI l 7) (aI l 8) (aI l 9) (aI l 10) (aI l 11) (aI l 12) (aI l 13) (aI l 14) (aI l 15)), .i (r_rBest_2 (aI l 0) (aI l 1) (aI l 2) (aI l 3) (aI l 4) (aI l 5) (aI l 6) (aI l 7) (aI l 8) (aI l 9) (aI l 10) (aI l 11) (aI l 12) (aI l 13) (aI l 14) (aI l 15)), .i (r_rBest_3 (aI l 0) (aI l 1) (aI l 2) (aI l 3) (aI l 4) (aI l 5) (aI l 6) (aI l 7) (aI l 8) (aI l 9) (aI l 10) (aI l 11) (aI l 12) (aI l 13) (aI l 14) (aI l 15)), .i (r_rBest_4 (aI l 0) (aI l 1) (aI l 2) (aI l 3) (aI l 4) (aI l 5) (aI l 6) (aI l 7) (aI l 8) (aI l 9) (aI l 10) (aI l 11) (aI l 12) (aI l 13) (aI l 14) (aI l 15)), .b (r_rBest_5 (aI l 0) (aI l 1) (aI l 2) (aI l 3) (aI l 4) (aI l 5) (aI l 6) (aI l 7) (aI l 8) (aI l 9) (aI l 10) (aI l 11) (aI l 12) (aI l 13) (aI l 14) (aI l 15))]) .no
theorem s_rBest : SpecF Try.prog 16 (.pure (locP ish_rBest osh_rBest F_rBest)) :=
  spec_locP (sy := y_rBest) (fuel := 100) (Lp := noLoops) o_sBest mixed ⟨Try.func16, by kernel_rfl, by kernel_rfl⟩ ish_rBest osh_rBest rfl (noLoops_ok _) (hT_merged [.i, .i, .i, .i, .i, .b] e_rBest (fun l => by kernel_rfl) (fun l => by kernel_rfl))
def Γ_rBest : Specs := upd Γ_sBest 16 (.pure (locP ish_rBest osh_rBest F_rBest))
theorem o_rBest : SpecOK Try.prog Γ_rBest := SpecOK.upd o_sBest s_rBest

/-! ### shown -/

def ish_shown : FSh := ⟨[], []⟩
def osh_shown : FSh := ⟨[.v false [.k .b]], []⟩
def T_shown  : Tr (List At) :=
 .br 0 (true)
 (.br 0 (true)
 (.br 0 (true)
 (.br 0 (true)
 (.br 0 (true)
 (.br 0 (true)
 (.br 0 (true)
 (.ok [(.b (true))])
 (.no))
 (.no))
 (.no))
 (.no))
 (.no))
 (.no))
 (.no)
def y_shown : Nat → Option Nat := syOf3 [] [] []
def TL_shown (l : List At) : Tr (List At) := T_shown 
theorem e_shown (l : List At) : (call Try.prog Γ_rBest y_shown noLoops 100 Try.f10 (mkV ish_shown l) (mkH ish_shown l)).bind (leafO 0 osh_shown) = TL_shown l := by kernel_rfl
def r_shown_0  : Bool :=
  bif true then (bif true then (bif true then (bif true then (bif true then (bif true then (bif true then (true)
  else false)
  else false)
  else false)
  else false)
  else false)
  else false)
  else false
def ok_shown  : Bool :=
  bif true then (bif true then (bif true then (bif true then (bif true then (bif true then (bif true then (true)
  else false)
  else false)
  else false)
  else false)
  else false)
  else false)
  else false
def F_shown : List At → Tr (List At) := fun l => .br 0 (ok_shown ) (.ok [.b (r_shown_0)]) .no
theorem s_shown : SpecF Try.prog 10 (.pure (locP ish_shown osh_shown F_shown)) :=
  spec_locP (sy := y_shown) (fuel := 100) (Lp := noLoops) o_rBest mixed ⟨Try.func10, by kernel_rfl, by kernel_rfl⟩ ish_shown osh_shown rfl (noLoops_ok _) (hT_merged [.b] e_shown (fun l => by kernel_rfl) (fun l => by kernel_rfl))
def Γ_shown : Specs := upd Γ_rBest 10 (.pure (locP ish_shown osh_shown F_shown))
theorem o_shown : SpecOK Try.prog Γ_shown := SpecOK.upd o_rBest s_shown

end Go.Proofs.Ytgmhggipaopoiaa.G
end

/-
  What functions of the seat compute, printed by a program from the explorer.
-/
section
namespace Go.Proofs.Ytgmhggipaopoiaa.G
open Go Go.AM Go.Proofs
/-! ### kind -/

noncomputable def ish_kind : FSh := ⟨[.v false [.k (.n .i64)], .v false [.k (.n .i64)]], []⟩
noncomputable def osh_kind : FSh := ⟨[.v false [.k (.n .i64)]], []⟩
noncomputable def T_kind (x0 : Int) (x1 : Int) : Tr (List At) :=
 .br 6 (Decidable.decide (x0 < (0 : Int)))
 (.br 12 (x1 != (0 : Int))
 (.ok [(.i (Int.tmod (Go.IntKind.wrap Go.IntKind.i64 ((0 : Int) - Go.IntKind.wrap Go.IntKind.i64 (x0 + (1 : Int)))) x1))])
 (.no))
 (.br 12 (x1 != (0 : Int))
 (.ok [(.i (Int.tmod x0 x1))])
 (.no))
noncomputable def y_kind : Nat → Option Nat := (syOf3 [6, 12] [] [])
noncomputable def TL_kind (l : List At) : Tr (List At) := T_kind (aI l 0) (aI l 1)
theorem e_kind (l : List At) : (call Try.prog Γ_shown y_kind noLoops 100 Try.f19 (mkV ish_kind l) (mkH ish_kind l)).bind (leafO 0 osh_kind) = TL_kind l := by kernel_rfl
noncomputable def r_kind_0 (x0 : Int) (x1 : Int) : Int :=
  bif Decidable.decide (x0 < (0 : Int)) then (bif x1 != (0 : Int) then (Int.tmod (Go.IntKind.wrap Go.IntKind.i64 ((0 : Int) - Go.IntKind.wrap Go.IntKind.i64 (x0 + (1 : Int)))) x1)
  else 0)
  else bif x1 != (0 : Int) then (Int.tmod x0 x1)
  else 0
noncomputable def ok_kind (x0 : Int) (x1 : Int) : Bool :=
  bif Decidable.decide (x0 < (0 : Int)) then (bif x1 != (0 : Int) then (true)
  else false)
  else bif x1 != (0 : Int) then (true)
  else false
noncomputable def F_kind : List At → Tr (List At) := fun l => .br 0 (ok_kind (aI l 0) (aI l 1)) (.ok [.i (r_kind_0 (aI l 0) (aI l 1))]) .no
theorem s_kind : SpecF Try.prog 19 (.pure (locP ish_kind osh_kind F_kind)) :=
  spec_locP (sy := y_kind) (fuel := 100) (Lp := noLoops) o_shown mixed ⟨Try.func19, by kernel_rfl, by kernel_rfl⟩ ish_kind osh_kind rfl (noLoops_ok _) (hT_merged [.i] e_kind (fun l => by kernel_rfl) (fun l => by kernel_rfl))
noncomputable def Γ_kind : Specs := upd Γ_shown 19 (.pure (locP ish_kind osh_kind F_kind))
theorem o_kind : SpecOK Try.prog Γ_kind := SpecOK.upd o_shown s_kind

/-! ### step -/

noncomputable def ish_step : FSh := ⟨[.v false [.p 0 0]], [.cells [.opq 1, .k .b, .k .b, .k (.n .i64), .k (.n .i64)], .no]⟩
noncomputable def osh_step : FSh := ⟨[.v false [.k (.n .i64)]], [.cells [.opq 1, .k .b, .k .b, .k (.n .i64), .k (.n .i64)], .no]⟩
noncomputable def T_step (x0 : Bool) (x1 : Bool) (x2 : Int) (x3 : Int) : Tr (List At) :=
 .br 7 (x1)
 (.br 13 (x2 == (0 : Int))
 (.br 20 (Bool.true)
 (.ok [(.i ((4 : Int))), (.b (Bool.true)), (.b (x1)), (.i (x2)), (.i (x3))])
 (.br 24 (x1)
 (.ok [(.i ((0 : Int))), (.b (Bool.true)), (.b (x1)), (.i (Go.IntKind.wrap Go.IntKind.i64 (x2 - (1 : Int)))), (.i (Go.IntKind.wrap Go.IntKind.i64 (x3 + (1 : Int))))])
 (.ok [(.i ((0 : Int))), (.b (Bool.true)), (.b (x1)), (.i (x2)), (.i (Go.IntKind.wrap Go.IntKind.i64 (x3 + (1 : Int))))])))
 (.br 20 (x0)
 (.ok [(.i ((4 : Int))), (.b (x0)), (.b (x1)), (.i (x2)), (.i (x3))])
 (.br 24 (x1)
 (.ok [(.i ((0 : Int))), (.b (x0)), (.b (x1)), (.i (Go.IntKind.wrap Go.IntKind.i64 (x2 - (1 : Int)))), (.i (Go.IntKind.wrap Go.IntKind.i64 (x3 + (1 : Int))))])
 (.ok [(.i ((0 : Int))), (.b (x0)), (.b (x1)), (.i (x2)), (.i (Go.IntKind.wrap Go.IntKind.i64 (x3 + (1 : Int))))]))))
 (.br 20 (x0)
 (.ok [(.i ((4 : Int))), (.b (x0)), (.b (x1)), (.i (x2)), (.i (x3))])
 (.br 24 (x1)
 (.ok [(.i ((0 : Int))), (.b (x0)), (.b (x1)), (.i (Go.IntKind.wrap Go.IntKind.i64 (x2 - (1 : Int)))), (.i (Go.IntKind.wrap Go.IntKind.i64 (x3 + (1 : Int))))])
 (.ok [(.i ((0 : Int))), (.b (x0)), (.b (x1)), (.i (x2)), (.i (Go.IntKind.wrap Go.IntKind.i64 (x3 + (1 : Int))))])))
noncomputable def y_step : Nat → Option Nat := (syOf3 [7, 13, 20, 24] [] [])
noncomputable def TL_step (l : List At) : Tr (List At) := T_step (aB l 0) (aB l 1) (aI l 2) (aI l 3)
theorem e_step (l : List At) : (call Try.prog Γ_kind y_step noLoops 100 Try.f51 (mkV ish_step l) (mkH ish_step l)).bind (leafO 2 osh_step) = TL_step l := by kernel_rfl
noncomputable def F_step : List At → Tr (List At) := TL_step
theorem s_step : SpecF Try.prog 51 (.eff (locF ish_step osh_step F_step)) :=
  spec_loc (sy := y_step) (fuel := 100) (Lp := noLoops) o_kind mixed ⟨Try.func51, by kernel_rfl, by kernel_rfl⟩ ish_step osh_step (noLoops_ok _) (hT_ways e_step)
noncomputable def Γ_step : Specs := upd Γ_kind 51 (.eff (locF ish_step osh_step F_step))
theorem o_step : SpecOK Try.prog Γ_step := SpecOK.upd o_kind s_step

/-! ### at -/

noncomputable def ish_at : FSh := ⟨[.v false [.p 0 0], .v false [.k (.n .i64)]], [.roc [.sw 1 25, .k .b, .k .b, .k (.n .i64), .k (.n .i64)], .nrows [.n .u64, .n .u64, .n .u64, .n .u64, .n .u64, .n .u64, .n .u64, .n .u64, .n .u64, .n .u64, .n .u64, .n .u64, .n .u64, .n .u64, .n .u64, .n .u64, .n .i64, .n .i64, .n .i64, .n .i64, .n .i64, .n .i64, .n .i64, .n .i64, .n .i64] 16 [.n .i64, .n .u64] 2 false false, .no]⟩
noncomputable def oshs_at : List FSh := [⟨[.v false [.pr 1 25 0]], [.no, .no, .no]⟩, ⟨[.v false [.pnil]], [.no, .no, .no]⟩]
noncomputable def T_at (x0 : Int) (x1 : Bool) (x2 : Bool) (x3 : Int) (x4 : Int) (n5 : Nat) (g5 : Nat → Nat → Int) (h5 : Nat → Nat → Int) : Tr (Nat × List At) :=
 .br 7 (Decidable.decide (x0 < (0 : Int)))
 (.ok ((1 : Nat), []))
 (.br 15 (Decidable.decide (x0 ≥ (↑n5 : Int)))
 (.ok ((1 : Nat), []))
 (.br 21 (Go.AM.within x0 n5)
 (.ok ((0 : Nat), [(.n (Int.toNat x0))]))
 (.no)))
noncomputable def y_at : Nat → Option Nat := (syOf3 [7, 15, 21] [] [])
noncomputable def TL_at (l : List At) : Tr (Nat × List At) := T_at (aI l 0) (aB l 1) (aB l 2) (aI l 3) (aI l 4) (aRn l 5) (aRg l 5) (aMh l 5 16 2)
theorem e_at (l : List At) : (call Try.prog Γ_step y_at noLoops 100 Try.f50 (mkV ish_at l) (mkH ish_at l)).bind (leafOs 3 0 oshs_at) = TL_at l := by kernel_rfl
noncomputable def F_at : List At → Tr (Nat × List At) := TL_at
theorem s_at : SpecF Try.prog 50 (.eff (locFs ish_at oshs_at F_at)) :=
  spec_locs (sy := y_at) (fuel := 100) (Lp := noLoops) o_step mixed ⟨Try.func50, by kernel_rfl, by kernel_rfl⟩ ish_at oshs_at (noLoops_ok _) (hT_waysS e_at)
noncomputable def Γ_at : Specs := upd Γ_step 50 (.eff (locFs ish_at oshs_at F_at))
theorem o_at : SpecOK Try.prog Γ_at := SpecOK.upd o_step s_at

end Go.Proofs.Ytgmhggipaopoiaa.G
end

/-
  A memory's lines, in plain words: rows of 25 numbers (8 now, 8 sure, how many stores are not sure, 8 flushed), and the stores.
-/
section
namespace Go.Proofs.Ytgmhggipaopoiaa.G
open Go Go.AM Go.Proofs

def apF (s hr : Nat → Int) : (a m : Nat) → Nat → Int
  | _, 0 => s
  | a, m + 1 => apF (fun w => if w = (hr (a * 2)).toNat then hr (a * 2 + 1) else s w) hr (a + 1) m

theorem apF_succ {hr : Nat → Int} : ∀ (m a : Nat) (s : Nat → Int), apF s hr a (m + 1) = fun w => if w = (hr ((a + m) * 2)).toNat then hr ((a + m) * 2 + 1) else apF s hr a m w
  | 0, a, s => rfl
  | m + 1, a, s => by
    rw [apF, apF_succ m (a + 1), show a + 1 + m = a + (m + 1) by omega]
    rfl

theorem apF_add {hr : Nat → Int} : ∀ (m k a : Nat) (s : Nat → Int), apF s hr a (m + k) = apF (apF s hr a m) hr (a + m) k
  | 0, k, a, s => by rw [Nat.zero_add]; rfl
  | m + 1, k, a, s => by
    rw [show m + 1 + k = (m + k) + 1 by omega, apF, apF_add m k (a + 1), apF, show a + 1 + m = a + (m + 1) by omega]

theorem apF_shift {hr : Nat → Int} (d : Nat) : ∀ (m a : Nat) (s : Nat → Int), apF s (fun k => hr (k + 2 * d)) a m = apF s hr (a + d) m
  | 0, _, _ => rfl
  | m + 1, a, s => by
    rw [apF, apF, apF_shift d m (a + 1), show a * 2 + 2 * d = (a + d) * 2 by omega, show a * 2 + 1 + 2 * d = (a + d) * 2 + 1 by omega, show a + 1 + d = a + d + 1 by omega]

def updR {α : Type} (g : Nat → α) (i : Nat) (r : α) : Nat → α := fun i' => if i' = i then r else g i'
theorem updR_self {α : Type} {g : Nat → α} {i : Nat} {r : α} : updR g i r i = r := if_pos rfl
theorem updR_ne {α : Type} {g : Nat → α} {i j : Nat} {r : α} (h : j ≠ i) : updR g i r j = g j := if_neg h
theorem updG_row (g : Nat → Nat → Int) (i c : Nat) (x : Int) : updG g i c x = updR g i (fun c' => if c' = c then x else g i c') := by
  funext i' c'
  unfold updG updR
  by_cases h : i' = i
  · subst h; rw [if_pos rfl, if_pos rfl]
  · rw [if_neg h, if_neg h]; split <;> rfl
theorem updR_updR {α : Type} {g : Nat → α} {i : Nat} {r r' : α} : updR (updR g i r) i r' = updR g i r' := by
  funext j; unfold updR; split <;> rfl
theorem updR_id {α : Type} {g : Nat → α} {i : Nat} : updR g i (g i) = g := by
  funext j; unfold updR; split
  · rename_i h; rw [h]
  · rfl

def putS (r s : Nat → Int) : Nat → Int := fun c => if 8 ≤ c ∧ c < 16 then s (c - 8) else r c
def sur (r : Nat → Int) : Nat → Int := fun w => r (8 + w)

def rowS (r hr : Nat → Int) (n : Nat) : Nat → Int := fun c =>
  if c = 16 then r 16 - n else if 17 ≤ c ∧ c < 25 then (if r c - n > 0 then r c - n else 0) else putS r (apF (sur r) hr 0 n) c
def hS (hr : Nat → Int) (n : Nat) : Nat → Int := fun k => hr (k + 2 * n)

def RowOk (r hr : Nat → Int) : Prop := 0 ≤ r 16 ∧ r 16 ≤ 1000000 ∧ (∀ c, 17 ≤ c → c < 25 → 0 ≤ r c ∧ r c ≤ r 16) ∧ ∀ k : Nat, (k : Int) < r 16 → 0 ≤ hr (k * 2) ∧ hr (k * 2) < 8

theorem rowOk_mk {r hr : Nat → Int} {n : Nat} (h : RowOk r hr) (hn : (n : Int) ≤ r 16) : RowOk (rowS r hr n) (hS hr n) := by
  obtain ⟨h1, h2, h3, h4⟩ := h
  have e : rowS r hr n 16 = r 16 - n := by unfold rowS; rw [if_pos rfl]
  refine ⟨by omega, by omega, fun c h5 h6 => ?_, fun k hk => ?_⟩
  · rw [e]
    have := h3 c h5 h6
    unfold rowS
    rw [if_neg (by omega), if_pos ⟨h5, h6⟩]
    split <;> omega
  · rw [e] at hk
    unfold hS
    rw [show k * 2 + 2 * n = (k + n) * 2 by omega]
    exact h4 (k + n) (by omega)

noncomputable def pdec (p : Prop) : Bool := @decide p (Classical.propDecidable p)
theorem of_pdec {p : Prop} (h : pdec p = true) : p := by unfold pdec at h; exact @of_decide_eq_true p (Classical.propDecidable p) h
theorem pdec_yes {p : Prop} (h : p) : pdec p = true := by unfold pdec; exact @decide_eq_true p (Classical.propDecidable p) h
theorem wrap_i64 {x : Int} (h1 : -9223372036854775808 ≤ x) (h2 : x ≤ 9223372036854775807) : IntKind.i64.wrap x = x := by rw [IntKind.wrap_i64]; omega
theorem atEq_q {n n' c0 wd : Nat} {g g' h h' : Nat → Nat → Int} (hn : n = n') (hg : ∀ i, i < n → ∀ c, g i c = g' i c) (hh : ∀ i, i < n → ∀ k, k < (g i c0).toNat * wd → h i k = h' i k) : AtEq (.q n g c0 wd h) (.q n' g' c0 wd h') := ⟨hn, rfl, rfl, hg, hh⟩
theorem atEq_qe {n c0 wd : Nat} {g g' h h' : Nat → Nat → Int} (hg : g = g') (hh : h = h') : AtEq (.q n g c0 wd h) (.q n g' c0 wd h') := by subst hg; subst hh; exact AtEq.refl _
end Go.Proofs.Ytgmhggipaopoiaa.G
end

/-
  A step of the memory, in plain words.
-/
section
namespace Go.Proofs.Ytgmhggipaopoiaa.G
open Go Go.AM Go.Proofs

def offB (off burns : Bool) (left : Int) : Bool := off || (burns && (left == 0))
def leftI (off burns : Bool) (left : Int) : Int := bif (!(offB off burns left)) && burns then left - 1 else left
def stepsI (off burns : Bool) (left steps : Int) : Int := bif offB off burns left then steps else steps + 1
def codeI (off burns : Bool) (left : Int) : Int := bif offB off burns left then 4 else 0
noncomputable def F2_step (l : List At) : Tr (List At) := .br 0 (pdec (aB l 1 = true → 0 ≤ aI l 2 ∧ aI l 2 ≤ 9223372036854775807)) (.br 0 (pdec (0 ≤ aI l 3 ∧ aI l 3 ≤ 1000000000))
  (.ok [.i (codeI (aB l 0) (aB l 1) (aI l 2)), .b (offB (aB l 0) (aB l 1) (aI l 2)), .b (aB l 1), .i (leftI (aB l 0) (aB l 1) (aI l 2)), .i (stepsI (aB l 0) (aB l 1) (aI l 2) (aI l 3))]) .no) .no

theorem t_step (x0 x1 : Bool) (x2 x3 : Int) (h1 : x1 = true → 0 ≤ x2 ∧ x2 ≤ 9223372036854775807) (h3 : 0 ≤ x3 ∧ x3 ≤ 1000000000) :
    (T_step x0 x1 x2 x3).sat fun r => AtsEq r [.i (codeI x0 x1 x2), .b (offB x0 x1 x2), .b x1, .i (leftI x0 x1 x2), .i (stepsI x0 x1 x2 x3)] := by
  have w3 : IntKind.i64.wrap (x3 + 1) = x3 + 1 := wrap_i64 (by omega) (by omega)
  unfold T_step codeI leftI stepsI offB
  rw [w3]
  cases x1 with
  | false =>
    refine brF rfl ?_
    cases x0 with
    | false => exact brF rfl (brF rfl (Tr.sat_ok.2 (AtsEq.refl _)))
    | true => exact brT rfl (Tr.sat_ok.2 (AtsEq.refl _))
  | true =>
    obtain ⟨a, b⟩ := h1 rfl
    refine brT rfl ?_
    by_cases h : x2 = 0
    · subst h
      refine brT rfl (brT rfl (Tr.sat_ok.2 ?_))
      cases x0 <;> exact AtsEq.refl _
    · have hb : (x2 == 0) = false := by simpa using h
      rw [hb, wrap_i64 (x := x2 - 1) (by omega) (by omega)]
      refine brF rfl ?_
      cases x0 with
      | false => exact brF rfl (brT rfl (Tr.sat_ok.2 (AtsEq.refl _)))
      | true => exact brT rfl (Tr.sat_ok.2 (AtsEq.refl _))

theorem s2_step : SpecF Try.prog 51 (.eff (locF ish_step osh_step F2_step)) :=
  spec_loc (sy := y_step) (fuel := 100) (Lp := noLoops) o_kind mixed ⟨Try.func51, by kernel_rfl, by kernel_rfl⟩ ish_step osh_step (noLoops_ok _) (hT_of e_step fun l r h => by
    obtain ⟨h1, h⟩ := guard_val h
    obtain ⟨h3, h⟩ := guard_val h
    have := val_ok h
    subst this
    exact t_step _ _ _ _ (of_pdec h1) (of_pdec h3))
noncomputable def Γ_S1 : Specs := upd Γ_at 51 (.eff (locF ish_step osh_step F2_step))
theorem o_S1 : SpecOK Try.prog Γ_S1 := SpecOK.upd o_at s2_step
end Go.Proofs.Ytgmhggipaopoiaa.G
end

/-
  A copy of a slice: nil of nil, else a new row.
-/
section
namespace Go.Proofs.Ytgmhggipaopoiaa.G
open Go Go.AM Go.Proofs

def ish_cl : FSh := ⟨[.v false [.vw 0 2]], [.rows [.n .i64, .n .u64] false]⟩
def osh_cl : FSh := ⟨[.v false [.sw 1 2]], [.no, .rows [.n .i64, .n .u64] true]⟩
def F_cl (l : List At) : Tr (List At) := .br 0 (decide (aRn l 0 ≤ 1073741824)) (.ok [.r (aRn l 0) (aRg l 0)]) .no
theorem eZ_cl (l : List At) : (call Try.prog Γ_S1 (syOf3 [7] [] []) noLoops 100 Try.f52 [.v (.s (.slz 0 2 0 (aRn l 0)))] (mkH ish_cl l)).bind (leafO 1 osh_cl) =
    .br 7 (decide (aRn l 0 ≤ 1073741824)) (.ok [.r (aRn l 0) (fun j c => aRg l 0 (0 + j) c)]) .no := by kernel_rfl
theorem eN_cl (l : List At) : (call Try.prog Γ_S1 (syOf3 [7] [] []) noLoops 100 Try.f52 [.v (.s .slnil)] (mkH ish_cl l)).bind (leafO 1 osh_cl) = .ok [.r 0 fun _ _ => 0] := by kernel_rfl
theorem s_cl : SpecF Try.prog 52 (.eff (locF ish_cl osh_cl F_cl)) := by
  refine spec_fork (sy := syOf3 [7] [] []) (sy' := syOf3 [7] [] []) (fuel := 100) (Lp := noLoops) o_S1 mixed ⟨Try.func52, by kernel_rfl, by kernel_rfl⟩ 2 [.n .i64, .n .u64] osh_cl (noLoops_ok _) (fun l r h => ?_) (fun l r h h0 => ?_)
  · obtain ⟨hc, h⟩ := guard_val h
    have hr := val_ok h
    subst hr
    refine ⟨_, by rw [show mkH ⟨[.v false [.vw 0 2]], [.rows [.n .i64, .n .u64] false]⟩ l = mkH ish_cl l from rfl, eZ_cl l]; exact br_t hc, ?_⟩
    exact atsEq_cons (atEq_r rfl (fun i _ c => by rw [Nat.zero_add])) atsEq_nil
  · obtain ⟨hc, h⟩ := guard_val h
    have hr := val_ok h
    subst hr
    refine ⟨_, by rw [show mkH ⟨[.v false [.vw 0 2]], [.rows [.n .i64, .n .u64] false]⟩ l = mkH ish_cl l from rfl, eN_cl l]; rfl, ?_⟩
    exact atsEq_cons (atEq_r h0.symm (fun i hi c => by omega)) atsEq_nil
noncomputable def Γ_cl : Specs := upd Γ_S1 52 (.eff (locF ish_cl osh_cl F_cl))
theorem o_cl : SpecOK Try.prog Γ_cl := SpecOK.upd o_S1 s_cl
end Go.Proofs.Ytgmhggipaopoiaa.G
end

/-
  What functions of the seat compute, printed by a program from the explorer.
-/
section
namespace Go.Proofs.Ytgmhggipaopoiaa.G
open Go Go.AM Go.Proofs
/-! ### the loop at 1 of mkS -/

noncomputable def lsh_mkS_1 : FSh := ⟨[.v false [.pr 0 25 0], .v false [.k (.n .i64)], .any, .any, .any, .any, .any, .any, .any, .any, .any, .any, .v false [.ms 0 1 2], .v false [.k (.n .i64)], .v false [.k (.n .i64)], .any, .any, .any, .any, .any, .any, .any, .any, .any, .any, .any, .any, .any, .any, .any, .any, .any, .any, .any, .any, .any, .any, .any, .any, .any, .any, .any, .any, .any, .any, .any, .any, .any, .any, .any, .any, .any, .any, .any, .any], [.nrows [.n .u64, .n .u64, .n .u64, .n .u64, .n .u64, .n .u64, .n .u64, .n .u64, .n .u64, .n .u64, .n .u64, .n .u64, .n .u64, .n .u64, .n .u64, .n .u64, .n .i64, .n .i64, .n .i64, .n .i64, .n .i64, .n .i64, .n .i64, .n .i64, .n .i64] 16 [.n .i64, .n .u64] 1 false true, .no]⟩
noncomputable def xsh_mkS_1_0 : FSh := ⟨[.v false [.pr 0 25 0], .v false [.k (.n .i64)], .any, .any, .any, .any, .any, .any, .any, .any, .any, .any, .any, .any, .any, .any, .any, .any, .any, .any, .any, .any, .any, .any, .any, .any, .any, .any, .any, .any, .any, .any, .any, .any, .any, .any, .any, .any, .any, .any, .any, .any, .any, .any, .any, .any, .any, .any, .any, .any, .any, .any, .any, .any, .any], [.nrows [.n .u64, .n .u64, .n .u64, .n .u64, .n .u64, .n .u64, .n .u64, .n .u64, .n .u64, .n .u64, .n .u64, .n .u64, .n .u64, .n .u64, .n .u64, .n .u64, .n .i64, .n .i64, .n .i64, .n .i64, .n .i64, .n .i64, .n .i64, .n .i64, .n .i64] 16 [.n .i64, .n .u64] 1 false true, .no]⟩
noncomputable def xs_mkS_1 : Exs := fun e => match e with
  | .normal => some lsh_mkS_1
  | .exit n => (match Nat.beq n 0 with | true => some xsh_mkS_1_0 | false => none)
  | .ret => none
noncomputable def B_mkS_1 (x0 : Nat) (x1 : Int) (x2 : Nat) (x3 : Nat) (x4 : Nat) (x5 : Int) (x6 : Int) (n7 : Nat) (g7 : Nat → Nat → Int) (h7 : Nat → Nat → Int) : Tr (Ex × List At) :=
 .br 15 (Decidable.decide (x6 < x5))
 (.br 16 (Go.AM.within x6 x4)
 (.br 200025 (Go.AM.within (h7 x2 ((x3 + Int.toNat x6) * (2 : Nat) + (0 : Nat))) (8 : Nat))
 (.ok (.normal, [(.n (x0)), (.i (x1)), (.n (x2)), (.n (x3)), (.n (x4)), (.i (x5)), (.i (Go.IntKind.wrap Go.IntKind.i64 (x6 + (1 : Int)))), (.q (n7) (Go.AM.updG g7 x0 ((8 : Nat) + Int.toNat (h7 x2 ((x3 + Int.toNat x6) * (2 : Nat) + (0 : Nat))) * (1 : Nat)) (h7 x2 ((x3 + Int.toNat x6) * (2 : Nat) + (1 : Nat)))) ((16 : Nat)) ((2 : Nat)) (h7))]))
 (.no))
 (.no))
 (.ok (.exit 0, [(.n (x0)), (.i (x1)), (.q (n7) (g7) ((16 : Nat)) ((2 : Nat)) (h7))]))
noncomputable def y_mkS_1 : Nat → Option Nat := (syOf3 [15, 16] [] [25])
noncomputable def BL_mkS_1 (l : List At) : Tr (Ex × List At) := B_mkS_1 (aN l 0) (aI l 1) (aN l 2) (aN l 3) (aN l 4) (aI l 5) (aI l 6) (aRn l 7) (aRg l 7) (aMh l 7 16 2)
theorem eB_mkS_1 (l : List At) : (exec Try.prog Γ_cl y_mkS_1 noLoops 100 (loopAt Try.f40 1) ⟨mkV lsh_mkS_1 l, mkH lsh_mkS_1 l⟩).bind (leafL 2 xs_mkS_1) = BL_mkS_1 l := by kernel_rfl
/- by hand: O_mkS_1 (x0 : Nat) (x1 : Int) (x2 : Nat) (x3 : Nat) (x4 : Nat) (x5 : Int) (x6 : Int) (n7 : Nat) (g7 : Nat → Nat → Int) (h7 : Nat → Nat → Int) : Tr (Ex × List At); OL_mkS_1 (l) := O_mkS_1 (aN l 0) (aI l 1) (aN l 2) (aN l 3) (aN l 4) (aI l 5) (aI l 6) (aRn l 7) (aRg l 7) (aMh l 7 16 2); μ_mkS_1 : List At → Nat; rd_mkS_1 : ∀ l r, (OL_mkS_1 l).val = some r → RoundA BL_mkS_1 OL_mkS_1 μ_mkS_1 l r -/

end Go.Proofs.Ytgmhggipaopoiaa.G
end

/-
  The first loop of makeSure: the stores become sure.
-/
section
namespace Go.Proofs.Ytgmhggipaopoiaa.G
open Go Go.AM Go.Proofs

def pre1 (x2 x3 x4 : Nat) (x5 x6 : Int) (h7 : Nat → Nat → Int) : Prop :=
  0 ≤ x6 ∧ x6 ≤ x5 ∧ x5 = x4 ∧ x5 ≤ 1000000 ∧ ∀ k : Nat, x6 ≤ k → (k : Int) < x5 → 0 ≤ h7 x2 ((x3 + k) * 2) ∧ h7 x2 ((x3 + k) * 2) < 8

noncomputable def O_mkS_1 (x0 : Nat) (x1 : Int) (x2 x3 x4 : Nat) (x5 x6 : Int) (n7 : Nat) (g7 h7 : Nat → Nat → Int) : Tr (Ex × List At) :=
  .br 0 (pdec (pre1 x2 x3 x4 x5 x6 h7)) (.ok (.exit 0, [.n x0, .i x1, .q n7 (updR g7 x0 (putS (g7 x0) (apF (sur (g7 x0)) (h7 x2) (x3 + x6.toNat) (x5 - x6).toNat))) 16 2 h7])) .no
noncomputable def OL_mkS_1 (l : List At) : Tr (Ex × List At) := O_mkS_1 (aN l 0) (aI l 1) (aN l 2) (aN l 3) (aN l 4) (aI l 5) (aI l 6) (aRn l 7) (aRg l 7) (aMh l 7 16 2)
def μ_mkS_1 (l : List At) : Nat := (aI l 5 - aI l 6).toNat

theorem putS_sur (r : Nat → Int) : putS r (sur r) = r := by
  funext c; unfold putS sur
  split
  · rw [show 8 + (c - 8) = c by omega]
  · rfl

theorem rd_mkS_1 : ∀ l r, (OL_mkS_1 l).val = some r → RoundS BL_mkS_1 OL_mkS_1 μ_mkS_1 l r := by
  intro l r h
  obtain ⟨hc, h⟩ := guard_val h
  obtain ⟨c0, c1, c2, c3, c4⟩ := of_pdec hc
  have hr := val_ok h
  unfold RoundS BL_mkS_1 B_mkS_1
  generalize hx0 : aN l 0 = x0 at *
  generalize hx2 : aN l 2 = x2 at *
  generalize hx3 : aN l 3 = x3 at *
  generalize hx4 : aN l 4 = x4 at *
  generalize hx5 : aI l 5 = x5 at *
  generalize hx6 : aI l 6 = x6 at *
  generalize hg : aRg l 7 = g at *
  generalize hh : aMh l 7 16 2 = hm at *
  refine brD (fun h1 => brW (fun _ => ?_) (fun hh => by exfalso; omega)) (fun h1 => ?_)
  · obtain ⟨w0, w1⟩ := c4 x6.toNat (by omega) (by omega)
    refine brT (by simp [within]; omega) ?_
    have hw : IntKind.i64.wrap (x6 + 1) = x6 + 1 := wrap_i64 (by omega) (by omega)
    rw [hw]
    have hq : pre1 x2 x3 x4 x5 (x6 + 1) hm := ⟨by omega, by omega, c2, c3, fun k hk1 hk2 => c4 k (by omega) hk2⟩
    have hμ : (x5 - (x6 + 1)).toNat < μ_mkS_1 l := by unfold μ_mkS_1; rw [hx5, hx6]; omega
    have key : updR (updG g x0 (8 + Int.toNat (hm x2 ((x3 + x6.toNat) * 2 + 0)) * 1) (hm x2 ((x3 + x6.toNat) * 2 + 1))) x0 (putS (updG g x0 (8 + Int.toNat (hm x2 ((x3 + x6.toNat) * 2 + 0)) * 1) (hm x2 ((x3 + x6.toNat) * 2 + 1)) x0) (apF (sur (updG g x0 (8 + Int.toNat (hm x2 ((x3 + x6.toNat) * 2 + 0)) * 1) (hm x2 ((x3 + x6.toNat) * 2 + 1)) x0)) (hm x2) (x3 + (x6 + 1).toNat) (x5 - (x6 + 1)).toNat)) =
            updR g x0 (putS (g x0) (apF (sur (g x0)) (hm x2) (x3 + x6.toNat) (x5 - x6).toNat)) := by
          have e1 : (x5 - x6).toNat = (x5 - (x6 + 1)).toNat + 1 := by omega
          have e2 : x3 + (x6 + 1).toNat = x3 + x6.toNat + 1 := by omega
          rw [e1, apF, e2, updG_row, updR_updR, updR_self, Nat.add_zero, Nat.mul_one]
          have e3 : sur (fun c' => if c' = 8 + Int.toNat (hm x2 ((x3 + x6.toNat) * 2)) then hm x2 ((x3 + x6.toNat) * 2 + 1) else g x0 c') = fun w => if w = Int.toNat (hm x2 ((x3 + x6.toNat) * 2)) then hm x2 ((x3 + x6.toNat) * 2 + 1) else sur (g x0) w := by
            funext w
            show (if 8 + w = 8 + Int.toNat (hm x2 ((x3 + x6.toNat) * 2)) then hm x2 ((x3 + x6.toNat) * 2 + 1) else g x0 (8 + w)) = if w = Int.toNat (hm x2 ((x3 + x6.toNat) * 2)) then hm x2 ((x3 + x6.toNat) * 2 + 1) else g x0 (8 + w)
            by_cases hw : w = Int.toNat (hm x2 ((x3 + x6.toNat) * 2))
            · rw [if_pos (by omega), if_pos hw]
            · rw [if_neg (by omega), if_neg hw]
          have e4 : ∀ s, putS (fun c' => if c' = 8 + Int.toNat (hm x2 ((x3 + x6.toNat) * 2)) then hm x2 ((x3 + x6.toNat) * 2 + 1) else g x0 c') s = putS (g x0) s := by
            intro s
            funext c
            unfold putS
            by_cases hc : 8 ≤ c ∧ c < 16
            · rw [if_pos hc, if_pos hc]
            · rw [if_neg hc, if_neg hc]
              exact if_neg (by omega)
          rw [e3, e4]
    exact on_ _ r (AtsEq.refl _) hμ ((br_t (g := 0) (pdec_yes hq)).trans ((congrArg (fun q => (Tr.ok (Ex.exit 0, [At.n x0, At.i (aI l 1), At.q (aRn l 7) q 16 2 hm])).val) key).trans h)) rfl (AtsEq.refl _)
  · subst hr
    refine out_ (by simp) rfl ?_
    have : (x5 - x6).toNat = 0 := by omega
    rw [this]
    show AtsEq _ [At.n x0, At.i (aI l 1), At.q (aRn l 7) (updR g x0 (putS (g x0) (sur (g x0)))) 16 2 hm]
    rw [putS_sur, updR_id]
    exact AtsEq.refl _
end Go.Proofs.Ytgmhggipaopoiaa.G
end

/-
  What functions of the seat compute, printed by a program from the explorer.
-/
section
namespace Go.Proofs.Ytgmhggipaopoiaa.G
open Go Go.AM Go.Proofs
theorem f_mkS_1 : LoopF Try.prog 2 (loopAt Try.f40 1) (loopFn 2 lsh_mkS_1 xs_mkS_1 OL_mkS_1) :=
  loop_sat (sy := y_mkS_1) (fuel := 100) (Lp := noLoops) o_cl mixed (loopsOK_at (noLoops_ok _) 1) rfl eB_mkS_1 rd_mkS_1
noncomputable def Lp_mkS_1 : Loops := Loops.set noLoops 1 (loopFn 2 lsh_mkS_1 xs_mkS_1 OL_mkS_1)
theorem lk_mkS_1 : LoopsFn Try.prog 2 Lp_mkS_1 Try.f40 := loopsFn_set (noLoops_ok _) (by kernel_rfl) f_mkS_1

/-! ### the loop at 7 of mkS -/

noncomputable def lsh_mkS_7 : FSh := ⟨[.v false [.pr 0 25 0], .v false [.k (.n .i64)], .any, .any, .any, .any, .any, .any, .any, .any, .any, .any, .any, .any, .any, .any, .any, .any, .any, .any, .any, .any, .any, .any, .any, .any, .any, .any, .any, .any, .any, .any, .any, .any, .any, .any, .any, .v false [.k (.n .i64)], .any, .any, .any, .any, .any, .any, .any, .any, .any, .any, .any, .any, .any, .any, .any, .any, .any], [.nrows [.n .u64, .n .u64, .n .u64, .n .u64, .n .u64, .n .u64, .n .u64, .n .u64, .n .u64, .n .u64, .n .u64, .n .u64, .n .u64, .n .u64, .n .u64, .n .u64, .n .i64, .n .i64, .n .i64, .n .i64, .n .i64, .n .i64, .n .i64, .n .i64, .n .i64] 16 [.n .i64, .n .u64] 2 false true, .no, .no]⟩
noncomputable def xsh_mkS_7_0 : FSh := ⟨[.any, .any, .any, .any, .any, .any, .any, .any, .any, .any, .any, .any, .any, .any, .any, .any, .any, .any, .any, .any, .any, .any, .any, .any, .any, .any, .any, .any, .any, .any, .any, .any, .any, .any, .any, .any, .any, .any, .any, .any, .any, .any, .any, .any, .any, .any, .any, .any, .any, .any, .any, .any, .any, .any, .any], [.nrows [.n .u64, .n .u64, .n .u64, .n .u64, .n .u64, .n .u64, .n .u64, .n .u64, .n .u64, .n .u64, .n .u64, .n .u64, .n .u64, .n .u64, .n .u64, .n .u64, .n .i64, .n .i64, .n .i64, .n .i64, .n .i64, .n .i64, .n .i64, .n .i64, .n .i64] 16 [.n .i64, .n .u64] 2 false true, .no, .no]⟩
noncomputable def xs_mkS_7 : Exs := fun e => match e with
  | .normal => some lsh_mkS_7
  | .exit n => (match Nat.beq n 2 with | true => some xsh_mkS_7_0 | false => none)
  | .ret => none
noncomputable def B_mkS_7 (x0 : Nat) (x1 : Int) (x2 : Int) (n3 : Nat) (g3 : Nat → Nat → Int) (h3 : Nat → Nat → Int) : Tr (Ex × List At) :=
 .br 38 (Decidable.decide (x2 < (8 : Int)))
 (.br 200046 (Go.AM.within x2 (8 : Nat))
 (.br 200053 (Go.AM.within x2 (8 : Nat))
 (.ok (.normal, [(.n (x0)), (.i (x1)), (.i (Go.IntKind.wrap Go.IntKind.i64 (x2 + (1 : Int)))), (.q (n3) (Go.AM.updG g3 x0 ((17 : Nat) + Int.toNat x2 * (1 : Nat)) (if Go.IntKind.wrap Go.IntKind.i64 (g3 x0 ((17 : Nat) + Int.toNat x2 * (1 : Nat)) - x1) > (0 : Int) then Go.IntKind.wrap Go.IntKind.i64 (g3 x0 ((17 : Nat) + Int.toNat x2 * (1 : Nat)) - x1) else (0 : Int))) ((16 : Nat)) ((2 : Nat)) (h3))]))
 (.no))
 (.no))
 (.ok (.exit 2, [(.q (n3) (g3) ((16 : Nat)) ((2 : Nat)) (h3))]))
noncomputable def y_mkS_7 : Nat → Option Nat := (syOf3 [38] [] [46, 53])
noncomputable def BL_mkS_7 (l : List At) : Tr (Ex × List At) := B_mkS_7 (aN l 0) (aI l 1) (aI l 2) (aRn l 3) (aRg l 3) (aMh l 3 16 2)
theorem eB_mkS_7 (l : List At) : (exec Try.prog Γ_cl y_mkS_7 Lp_mkS_1 100 (loopAt Try.f40 7) ⟨mkV lsh_mkS_7 l, mkH lsh_mkS_7 l⟩).bind (leafL 2 xs_mkS_7) = BL_mkS_7 l := by kernel_rfl
/- by hand: O_mkS_7 (x0 : Nat) (x1 : Int) (x2 : Int) (n3 : Nat) (g3 : Nat → Nat → Int) (h3 : Nat → Nat → Int) : Tr (Ex × List At); OL_mkS_7 (l) := O_mkS_7 (aN l 0) (aI l 1) (aI l 2) (aRn l 3) (aRg l 3) (aMh l 3 16 2); μ_mkS_7 : List At → Nat; rd_mkS_7 : ∀ l r, (OL_mkS_7 l).val = some r → RoundA BL_mkS_7 OL_mkS_7 μ_mkS_7 l r -/

end Go.Proofs.Ytgmhggipaopoiaa.G
end

/-
  The second loop of makeSure: fewer stores are flushed.
-/
section
namespace Go.Proofs.Ytgmhggipaopoiaa.G
open Go Go.AM Go.Proofs

def less (r : Nat → Int) (n : Int) (a : Nat) : Nat → Int := fun c => if 17 + a ≤ c ∧ c < 25 then (if r c - n > 0 then r c - n else 0) else r c

def pre7 (r : Nat → Int) (x1 x2 : Int) : Prop := 0 ≤ x2 ∧ x2 ≤ 8 ∧ 0 ≤ x1 ∧ x1 ≤ 1000000 ∧ ∀ c, 17 ≤ c → c < 25 → 0 ≤ r c ∧ r c ≤ 1000000

noncomputable def O_mkS_7 (x0 : Nat) (x1 x2 : Int) (n3 : Nat) (g3 h3 : Nat → Nat → Int) : Tr (Ex × List At) :=
  .br 0 (pdec (pre7 (g3 x0) x1 x2)) (.ok (.exit 2, [.q n3 (updR g3 x0 (less (g3 x0) x1 x2.toNat)) 16 2 h3])) .no
noncomputable def OL_mkS_7 (l : List At) : Tr (Ex × List At) := O_mkS_7 (aN l 0) (aI l 1) (aI l 2) (aRn l 3) (aRg l 3) (aMh l 3 16 2)
def μ_mkS_7 (l : List At) : Nat := (8 - aI l 2).toNat

theorem rd_mkS_7 : ∀ l r, (OL_mkS_7 l).val = some r → RoundS BL_mkS_7 OL_mkS_7 μ_mkS_7 l r := by
  intro l r h
  obtain ⟨hc, h⟩ := guard_val h
  obtain ⟨c0, c1, c2, c3, c4⟩ := of_pdec hc
  have hr := val_ok h
  unfold RoundS BL_mkS_7 B_mkS_7
  generalize hx0 : aN l 0 = x0 at *
  generalize hx1 : aI l 1 = x1 at *
  generalize hx2 : aI l 2 = x2 at *
  generalize hg : aRg l 3 = g at *
  generalize hh : aMh l 3 16 2 = hm at *
  refine brD (fun h1 => brW (fun _ => brW (fun _ => ?_) (fun hh => by exfalso; omega)) (fun hh => by exfalso; omega)) (fun h1 => ?_)
  · obtain ⟨k, rfl⟩ := Int.eq_ofNat_of_zero_le c0
    have hk : k < 8 := by omega
    obtain ⟨w0, w1⟩ := c4 (17 + k) (by omega) (by omega)
    rw [Int.toNat_natCast, Nat.mul_one, wrap_i64 (x := (k : Int) + 1) (by omega) (by omega), wrap_i64 (x := g x0 (17 + k) - x1) (by omega) (by omega)]
    generalize hv : (if g x0 (17 + k) - x1 > 0 then g x0 (17 + k) - x1 else 0) = v
    have hv2 : 0 ≤ v ∧ v ≤ 1000000 := by subst hv; split <;> omega
    have row : updG g x0 (17 + k) v x0 = fun c => if c = 17 + k then v else g x0 c := by rw [updG_row, updR_self]
    have hq : pre7 (updG g x0 (17 + k) v x0) x1 ((k : Int) + 1) := by
      refine ⟨by omega, by omega, c2, c3, fun c h5 h6 => ?_⟩
      rw [row]
      show 0 ≤ (if c = 17 + k then v else g x0 c) ∧ (if c = 17 + k then v else g x0 c) ≤ 1000000
      split
      · exact hv2
      · exact c4 c h5 h6
    have key : updR (updG g x0 (17 + k) v) x0 (less (updG g x0 (17 + k) v x0) x1 ((k : Int) + 1).toNat) = updR g x0 (less (g x0) x1 (k : Int).toNat) := by
      rw [updG_row, updR_updR, updR_self]
      congr 1
      funext c
      unfold less
      rw [show ((k : Int) + 1).toNat = k + 1 by omega, Int.toNat_natCast]
      by_cases h5 : 17 + (k + 1) ≤ c ∧ c < 25
      · have e : (fun c' => if c' = 17 + k then v else g x0 c') c = g x0 c := if_neg (by omega)
        rw [if_pos h5, if_pos (show 17 + k ≤ c ∧ c < 25 by omega), e]
      · rw [if_neg h5]
        by_cases h6 : c = 17 + k
        · have e : (fun c' => if c' = 17 + k then v else g x0 c') c = v := if_pos h6
          rw [e, if_pos (show 17 + k ≤ c ∧ c < 25 by omega), ← hv, h6]
        · have e : (fun c' => if c' = 17 + k then v else g x0 c') c = g x0 c := if_neg h6
          rw [e, if_neg (show ¬ (17 + k ≤ c ∧ c < 25) by omega)]
    have hμ : (8 - ((k : Int) + 1)).toNat < μ_mkS_7 l := by unfold μ_mkS_7; rw [hx2]; omega
    exact on_ _ r (AtsEq.refl _) hμ ((br_t (g := 0) (pdec_yes hq)).trans ((congrArg (fun q => (Tr.ok (Ex.exit 2, [At.q (aRn l 3) q 16 2 hm])).val) key).trans h)) rfl (AtsEq.refl _)
  · subst hr
    refine out_ (by simp) rfl ?_
    have e : less (g x0) x1 x2.toNat = g x0 := by
      funext c
      unfold less
      rw [if_neg (by omega)]
    show AtsEq _ [At.q (aRn l 3) (updR g x0 (less (g x0) x1 x2.toNat)) 16 2 hm]
    rw [e, updR_id]
    exact AtsEq.refl _
end Go.Proofs.Ytgmhggipaopoiaa.G
end

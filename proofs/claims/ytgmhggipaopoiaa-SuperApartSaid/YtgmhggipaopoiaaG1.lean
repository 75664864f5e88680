/-
  What functions of the seat compute, printed by a program from the explorer.
-/
import Derived.Test.YtgmhggipaopoiaaCrc2
import Derived.KernelRfl
namespace Go.Proofs.Ytgmhggipaopoiaa.G
open Go Go.AM Go.Proofs
/-! ### within_ -/

def ish_within_ : FSh := ⟨[.v false [.k (.n .i64)], .v false [.k (.n .i64)], .v false [.k (.n .i64)]], []⟩
def osh_within_ : FSh := ⟨[.v false [.k .b]], []⟩
def T_within_ (x0 : Int) (x1 : Int) (x2 : Int) : Tr (List At) :=
 .br 10 (decide (x0 ≥ x1))
 (.ok [(.b (decide (x0 ≤ x2)))])
 (.ok [(.b (false))])
def y_within_ : Nat → Option Nat := syOf3 [10] [] []
def TL_within_ (l : List At) : Tr (List At) := T_within_ (aI l 0) (aI l 1) (aI l 2)
theorem e_within_ (l : List At) : (call Try.prog Γ_crcGood y_within_ noLoops 100 Try.f32 (mkV ish_within_ l) (mkH ish_within_ l)).bind (leafO 0 osh_within_) = TL_within_ l := by kernel_rfl
def r_within__0 (x0 : Int) (x1 : Int) (x2 : Int) : Bool :=
  bif decide (x0 ≥ x1) then (decide (x0 ≤ x2))
  else false
def F_within_ : List At → Tr (List At) := fun l => .ok [.b (r_within__0 (aI l 0) (aI l 1) (aI l 2))]
theorem s_within_ : SpecF Try.prog 32 (.pure (locP ish_within_ osh_within_ F_within_)) :=
  spec_locP (sy := y_within_) (fuel := 100) (Lp := noLoops) o_crcGood mixed ⟨Try.func32, by kernel_rfl, by kernel_rfl⟩ ish_within_ osh_within_ rfl (noLoops_ok _) (hT_merged [.b] e_within_ (fun l => by kernel_rfl) (fun l => by kernel_rfl))
def Γ_within_ : Specs := upd Γ_crcGood 32 (.pure (locP ish_within_ osh_within_ F_within_))
theorem o_within_ : SpecOK Try.prog Γ_within_ := SpecOK.upd o_crcGood s_within_

/-! ### sLine -/

def ish_sLine : FSh := ⟨[.v true [.k (.n .i64), .k (.n .i64), .k (.n .i64), .k (.n .i64)]], []⟩
def osh_sLine : FSh := ⟨[.tup [(true, [.k (.n .u64), .k (.n .u64), .k (.n .u64), .k (.n .u64), .k (.n .u64), .k (.n .u64), .k (.n .u64), .k (.n .u64)]), (false, [.k (.n .i64)])]], []⟩
def T_sLine (x0 : Int) (x1 : Int) (x2 : Int) (x3 : Int) : Tr (List At) :=
 .br 8 (!r_within__0 x0 (1 : Int) (1099511627776 : Int))
 (.ok [(.i ((0 : Int))), (.i ((0 : Int))), (.i ((0 : Int))), (.i ((0 : Int))), (.i ((0 : Int))), (.i ((0 : Int))), (.i ((0 : Int))), (.i ((0 : Int))), (.i ((1 : Int)))])
 (.br 14 (!r_within__0 x1 (0 : Int) (1023 : Int))
 (.ok [(.i ((0 : Int))), (.i ((0 : Int))), (.i ((0 : Int))), (.i ((0 : Int))), (.i ((0 : Int))), (.i ((0 : Int))), (.i ((0 : Int))), (.i ((0 : Int))), (.i ((1 : Int)))])
 (.br 20 (!r_within__0 x2 (0 : Int) (1099511627776 : Int))
 (.ok [(.i ((0 : Int))), (.i ((0 : Int))), (.i ((0 : Int))), (.i ((0 : Int))), (.i ((0 : Int))), (.i ((0 : Int))), (.i ((0 : Int))), (.i ((0 : Int))), (.i ((1 : Int)))])
 (.br 25 (!r_within__0 x3 (1 : Int) (8 : Int))
 (.ok [(.i ((0 : Int))), (.i ((0 : Int))), (.i ((0 : Int))), (.i ((0 : Int))), (.i ((0 : Int))), (.i ((0 : Int))), (.i ((0 : Int))), (.i ((0 : Int))), (.i ((1 : Int)))])
 (.br 0 (ok_crcSeal (1526644958 : Int) (IntKind.wrap IntKind.u64 x0) (IntKind.wrap IntKind.u64 x1) (IntKind.wrap IntKind.u64 x2) (IntKind.wrap IntKind.u64 x3) (0 : Int) (0 : Int) (0 : Int))
 (.ok [(.i (r_crcSeal_0 (1526644958 : Int) (IntKind.wrap IntKind.u64 x0) (IntKind.wrap IntKind.u64 x1) (IntKind.wrap IntKind.u64 x2) (IntKind.wrap IntKind.u64 x3) (0 : Int) (0 : Int))), (.i (r_crcSeal_1 (1526644958 : Int) (IntKind.wrap IntKind.u64 x0) (IntKind.wrap IntKind.u64 x1) (IntKind.wrap IntKind.u64 x2) (IntKind.wrap IntKind.u64 x3) (0 : Int) (0 : Int))), (.i (r_crcSeal_2 (1526644958 : Int) (IntKind.wrap IntKind.u64 x0) (IntKind.wrap IntKind.u64 x1) (IntKind.wrap IntKind.u64 x2) (IntKind.wrap IntKind.u64 x3) (0 : Int) (0 : Int))), (.i (r_crcSeal_3 (1526644958 : Int) (IntKind.wrap IntKind.u64 x0) (IntKind.wrap IntKind.u64 x1) (IntKind.wrap IntKind.u64 x2) (IntKind.wrap IntKind.u64 x3) (0 : Int) (0 : Int))), (.i (r_crcSeal_4 (1526644958 : Int) (IntKind.wrap IntKind.u64 x0) (IntKind.wrap IntKind.u64 x1) (IntKind.wrap IntKind.u64 x2) (IntKind.wrap IntKind.u64 x3) (0 : Int) (0 : Int))), (.i (r_crcSeal_5 (1526644958 : Int) (IntKind.wrap IntKind.u64 x0) (IntKind.wrap IntKind.u64 x1) (IntKind.wrap IntKind.u64 x2) (IntKind.wrap IntKind.u64 x3) (0 : Int) (0 : Int))), (.i (r_crcSeal_6 (1526644958 : Int) (IntKind.wrap IntKind.u64 x0) (IntKind.wrap IntKind.u64 x1) (IntKind.wrap IntKind.u64 x2) (IntKind.wrap IntKind.u64 x3) (0 : Int) (0 : Int))), (.i (r_crcSeal_7 (1526644958 : Int) (IntKind.wrap IntKind.u64 x0) (IntKind.wrap IntKind.u64 x1) (IntKind.wrap IntKind.u64 x2) (IntKind.wrap IntKind.u64 x3) (0 : Int) (0 : Int))), (.i ((0 : Int)))])
 (.no)))))
def y_sLine : Nat → Option Nat := syOf3 [8, 14, 20, 25] [] []
def TL_sLine (l : List At) : Tr (List At) := T_sLine (aI l 0) (aI l 1) (aI l 2) (aI l 3)
theorem e_sLine (l : List At) : (call Try.prog Γ_within_ y_sLine noLoops 100 Try.f11 (mkV ish_sLine l) (mkH ish_sLine l)).bind (leafO 0 osh_sLine) = TL_sLine l := by kernel_rfl
def r_sLine_0 (x0 : Int) (x1 : Int) (x2 : Int) (x3 : Int) : Int :=
  bif !r_within__0 x0 (1 : Int) (1099511627776 : Int) then ((0 : Int))
  else bif !r_within__0 x1 (0 : Int) (1023 : Int) then ((0 : Int))
  else bif !r_within__0 x2 (0 : Int) (1099511627776 : Int) then ((0 : Int))
  else bif !r_within__0 x3 (1 : Int) (8 : Int) then ((0 : Int))
  else bif ok_crcSeal (1526644958 : Int) (IntKind.wrap IntKind.u64 x0) (IntKind.wrap IntKind.u64 x1) (IntKind.wrap IntKind.u64 x2) (IntKind.wrap IntKind.u64 x3) (0 : Int) (0 : Int) (0 : Int) then (r_crcSeal_0 (1526644958 : Int) (IntKind.wrap IntKind.u64 x0) (IntKind.wrap IntKind.u64 x1) (IntKind.wrap IntKind.u64 x2) (IntKind.wrap IntKind.u64 x3) (0 : Int) (0 : Int))
  else 0
def r_sLine_1 (x0 : Int) (x1 : Int) (x2 : Int) (x3 : Int) : Int :=
  bif !r_within__0 x0 (1 : Int) (1099511627776 : Int) then ((0 : Int))
  else bif !r_within__0 x1 (0 : Int) (1023 : Int) then ((0 : Int))
  else bif !r_within__0 x2 (0 : Int) (1099511627776 : Int) then ((0 : Int))
  else bif !r_within__0 x3 (1 : Int) (8 : Int) then ((0 : Int))
  else bif ok_crcSeal (1526644958 : Int) (IntKind.wrap IntKind.u64 x0) (IntKind.wrap IntKind.u64 x1) (IntKind.wrap IntKind.u64 x2) (IntKind.wrap IntKind.u64 x3) (0 : Int) (0 : Int) (0 : Int) then (r_crcSeal_1 (1526644958 : Int) (IntKind.wrap IntKind.u64 x0) (IntKind.wrap IntKind.u64 x1) (IntKind.wrap IntKind.u64 x2) (IntKind.wrap IntKind.u64 x3) (0 : Int) (0 : Int))
  else 0
def r_sLine_2 (x0 : Int) (x1 : Int) (x2 : Int) (x3 : Int) : Int :=
  bif !r_within__0 x0 (1 : Int) (1099511627776 : Int) then ((0 : Int))
  else bif !r_within__0 x1 (0 : Int) (1023 : Int) then ((0 : Int))
  else bif !r_within__0 x2 (0 : Int) (1099511627776 : Int) then ((0 : Int))
  else bif !r_within__0 x3 (1 : Int) (8 : Int) then ((0 : Int))
  else bif ok_crcSeal (1526644958 : Int) (IntKind.wrap IntKind.u64 x0) (IntKind.wrap IntKind.u64 x1) (IntKind.wrap IntKind.u64 x2) (IntKind.wrap IntKind.u64 x3) (0 : Int) (0 : Int) (0 : Int) then (r_crcSeal_2 (1526644958 : Int) (IntKind.wrap IntKind.u64 x0) (IntKind.wrap IntKind.u64 x1) (IntKind.wrap IntKind.u64 x2) (IntKind.wrap IntKind.u64 x3) (0 : Int) (0 : Int))
  else 0
def r_sLine_3 (x0 : Int) (x1 : Int) (x2 : Int) (x3 : Int) : Int :=
  bif !r_within__0 x0 (1 : Int) (1099511627776 : Int) then ((0 : Int))
  else bif !r_within__0 x1 (0 : Int) (1023 : Int) then ((0 : Int))
  else bif !r_within__0 x2 (0 : Int) (1099511627776 : Int) then ((0 : Int))
  else bif !r_within__0 x3 (1 : Int) (8 : Int) then ((0 : Int))
  else bif ok_crcSeal (1526644958 : Int) (IntKind.wrap IntKind.u64 x0) (IntKind.wrap IntKind.u64 x1) (IntKind.wrap IntKind.u64 x2) (IntKind.wrap IntKind.u64 x3) (0 : Int) (0 : Int) (0 : Int) then (r_crcSeal_3 (1526644958 : Int) (IntKind.wrap IntKind.u64 x0) (IntKind.wrap IntKind.u64 x1) (IntKind.wrap IntKind.u64 x2) (IntKind.wrap IntKind.u64 x3) (0 : Int) (0 : Int))
  else 0
def r_sLine_4 (x0 : Int) (x1 : Int) (x2 : Int) (x3 : Int) : Int :=
  bif !r_within__0 x0 (1 : Int) (1099511627776 : Int) then ((0 : Int))
  else bif !r_within__0 x1 (0 : Int) (1023 : Int) then ((0 : Int))
  else bif !r_within__0 x2 (0 : Int) (1099511627776 : Int) then ((0 : Int))
  else bif !r_within__0 x3 (1 : Int) (8 : Int) then ((0 : Int))
  else bif ok_crcSeal (1526644958 : Int) (IntKind.wrap IntKind.u64 x0) (IntKind.wrap IntKind.u64 x1) (IntKind.wrap IntKind.u64 x2) (IntKind.wrap IntKind.u64 x3) (0 : Int) (0 : Int) (0 : Int) then (r_crcSeal_4 (1526644958 : Int) (IntKind.wrap IntKind.u64 x0) (IntKind.wrap IntKind.u64 x1) (IntKind.wrap IntKind.u64 x2) (IntKind.wrap IntKind.u64 x3) (0 : Int) (0 : Int))
  else 0
def r_sLine_5 (x0 : Int) (x1 : Int) (x2 : Int) (x3 : Int) : Int :=
  bif !r_within__0 x0 (1 : Int) (1099511627776 : Int) then ((0 : Int))
  else bif !r_within__0 x1 (0 : Int) (1023 : Int) then ((0 : Int))
  else bif !r_within__0 x2 (0 : Int) (1099511627776 : Int) then ((0 : Int))
  else bif !r_within__0 x3 (1 : Int) (8 : Int) then ((0 : Int))
  else bif ok_crcSeal (1526644958 : Int) (IntKind.wrap IntKind.u64 x0) (IntKind.wrap IntKind.u64 x1) (IntKind.wrap IntKind.u64 x2) (IntKind.wrap IntKind.u64 x3) (0 : Int) (0 : Int) (0 : Int) then (r_crcSeal_5 (1526644958 : Int) (IntKind.wrap IntKind.u64 x0) (IntKind.wrap IntKind.u64 x1) (IntKind.wrap IntKind.u64 x2) (IntKind.wrap IntKind.u64 x3) (0 : Int) (0 : Int))
  else 0
def r_sLine_6 (x0 : Int) (x1 : Int) (x2 : Int) (x3 : Int) : Int :=
  bif !r_within__0 x0 (1 : Int) (1099511627776 : Int) then ((0 : Int))
  else bif !r_within__0 x1 (0 : Int) (1023 : Int) then ((0 : Int))
  else bif !r_within__0 x2 (0 : Int) (1099511627776 : Int) then ((0 : Int))
  else bif !r_within__0 x3 (1 : Int) (8 : Int) then ((0 : Int))
  else bif ok_crcSeal (1526644958 : Int) (IntKind.wrap IntKind.u64 x0) (IntKind.wrap IntKind.u64 x1) (IntKind.wrap IntKind.u64 x2) (IntKind.wrap IntKind.u64 x3) (0 : Int) (0 : Int) (0 : Int) then (r_crcSeal_6 (1526644958 : Int) (IntKind.wrap IntKind.u64 x0) (IntKind.wrap IntKind.u64 x1) (IntKind.wrap IntKind.u64 x2) (IntKind.wrap IntKind.u64 x3) (0 : Int) (0 : Int))
  else 0
def r_sLine_7 (x0 : Int) (x1 : Int) (x2 : Int) (x3 : Int) : Int :=
  bif !r_within__0 x0 (1 : Int) (1099511627776 : Int) then ((0 : Int))
  else bif !r_within__0 x1 (0 : Int) (1023 : Int) then ((0 : Int))
  else bif !r_within__0 x2 (0 : Int) (1099511627776 : Int) then ((0 : Int))
  else bif !r_within__0 x3 (1 : Int) (8 : Int) then ((0 : Int))
  else bif ok_crcSeal (1526644958 : Int) (IntKind.wrap IntKind.u64 x0) (IntKind.wrap IntKind.u64 x1) (IntKind.wrap IntKind.u64 x2) (IntKind.wrap IntKind.u64 x3) (0 : Int) (0 : Int) (0 : Int) then (r_crcSeal_7 (1526644958 : Int) (IntKind.wrap IntKind.u64 x0) (IntKind.wrap IntKind.u64 x1) (IntKind.wrap IntKind.u64 x2) (IntKind.wrap IntKind.u64 x3) (0 : Int) (0 : Int))
  else 0
def r_sLine_8 (x0 : Int) (x1 : Int) (x2 : Int) (x3 : Int) : Int :=
  bif !r_within__0 x0 (1 : Int) (1099511627776 : Int) then ((1 : Int))
  else bif !r_within__0 x1 (0 : Int) (1023 : Int) then ((1 : Int))
  else bif !r_within__0 x2 (0 : Int) (1099511627776 : Int) then ((1 : Int))
  else bif !r_within__0 x3 (1 : Int) (8 : Int) then ((1 : Int))
  else bif ok_crcSeal (1526644958 : Int) (IntKind.wrap IntKind.u64 x0) (IntKind.wrap IntKind.u64 x1) (IntKind.wrap IntKind.u64 x2) (IntKind.wrap IntKind.u64 x3) (0 : Int) (0 : Int) (0 : Int) then ((0 : Int))
  else 0
def ok_sLine (x0 : Int) (x1 : Int) (x2 : Int) (x3 : Int) : Bool :=
  bif !r_within__0 x0 (1 : Int) (1099511627776 : Int) then (true)
  else bif !r_within__0 x1 (0 : Int) (1023 : Int) then (true)
  else bif !r_within__0 x2 (0 : Int) (1099511627776 : Int) then (true)
  else bif !r_within__0 x3 (1 : Int) (8 : Int) then (true)
  else bif ok_crcSeal (1526644958 : Int) (IntKind.wrap IntKind.u64 x0) (IntKind.wrap IntKind.u64 x1) (IntKind.wrap IntKind.u64 x2) (IntKind.wrap IntKind.u64 x3) (0 : Int) (0 : Int) (0 : Int) then (true)
  else false
def F_sLine : List At → Tr (List At) := fun l => .br 0 (ok_sLine (aI l 0) (aI l 1) (aI l 2) (aI l 3)) (.ok [.i (r_sLine_0 (aI l 0) (aI l 1) (aI l 2) (aI l 3)), .i (r_sLine_1 (aI l 0) (aI l 1) (aI l 2) (aI l 3)), .i (r_sLine_2 (aI l 0) (aI l 1) (aI l 2) (aI l 3)), .i (r_sLine_3 (aI l 0) (aI l 1) (aI l 2) (aI l 3)), .i (r_sLine_4 (aI l 0) (aI l 1) (aI l 2) (aI l 3)), .i (r_sLine_5 (aI l 0) (aI l 1) (aI l 2) (aI l 3)), .i (r_sLine_6 (aI l 0) (aI l 1) (aI l 2) (aI l 3)), .i (r_sLine_7 (aI l 0) (aI l 1) (aI l 2) (aI l 3)), .i (r_sLine_8 (aI l 0) (aI l 1) (aI l 2) (aI l 3))]) .no
theorem s_sLine : SpecF Try.prog 11 (.pure (locP ish_sLine osh_sLine F_sLine)) :=
  spec_locP (sy := y_sLine) (fuel := 100) (Lp := noLoops) o_within_ mixed ⟨Try.func11, by kernel_rfl, by kernel_rfl⟩ ish_sLine osh_sLine rfl (noLoops_ok _) (hT_merged [.i, .i, .i, .i, .i, .i, .i, .i, .i] e_sLine (fun l => by kernel_rfl) (fun l => by kernel_rfl))
def Γ_sLine : Specs := upd Γ_within_ 11 (.pure (locP ish_sLine osh_sLine F_sLine))
theorem o_sLine : SpecOK Try.prog Γ_sLine := SpecOK.upd o_within_ s_sLine

/-! ### rLine -/

def ish_rLine : FSh := ⟨[.v true [.k (.n .i64), .k (.n .i64), .k (.n .i64), .k (.n .i64)]], []⟩
def osh_rLine : FSh := ⟨[.tup [(true, [.k (.n .u64), .k (.n .u64), .k (.n .u64), .k (.n .u64), .k (.n .u64), .k (.n .u64), .k (.n .u64), .k (.n .u64)]), (false, [.k (.n .i64)])]], []⟩
def T_rLine (x0 : Int) (x1 : Int) (x2 : Int) (x3 : Int) : Tr (List At) :=
 .br 7 (decide (x0 < (1 : Int)))
 (.ok [(.i ((0 : Int))), (.i ((0 : Int))), (.i ((0 : Int))), (.i ((0 : Int))), (.i ((0 : Int))), (.i ((0 : Int))), (.i ((0 : Int))), (.i ((0 : Int))), (.i ((1 : Int)))])
 (.br 12 (decide (x0 > (1099511627776 : Int)))
 (.ok [(.i ((0 : Int))), (.i ((0 : Int))), (.i ((0 : Int))), (.i ((0 : Int))), (.i ((0 : Int))), (.i ((0 : Int))), (.i ((0 : Int))), (.i ((0 : Int))), (.i ((1 : Int)))])
 (.br 17 (decide (x1 < (0 : Int)))
 (.ok [(.i ((0 : Int))), (.i ((0 : Int))), (.i ((0 : Int))), (.i ((0 : Int))), (.i ((0 : Int))), (.i ((0 : Int))), (.i ((0 : Int))), (.i ((0 : Int))), (.i ((1 : Int)))])
 (.br 22 (decide (x1 ≥ (1024 : Int)))
 (.ok [(.i ((0 : Int))), (.i ((0 : Int))), (.i ((0 : Int))), (.i ((0 : Int))), (.i ((0 : Int))), (.i ((0 : Int))), (.i ((0 : Int))), (.i ((0 : Int))), (.i ((1 : Int)))])
 (.br 27 (decide (x2 < (0 : Int)))
 (.ok [(.i ((0 : Int))), (.i ((0 : Int))), (.i ((0 : Int))), (.i ((0 : Int))), (.i ((0 : Int))), (.i ((0 : Int))), (.i ((0 : Int))), (.i ((0 : Int))), (.i ((1 : Int)))])
 (.br 32 (decide (x2 > (1099511627776 : Int)))
 (.ok [(.i ((0 : Int))), (.i ((0 : Int))), (.i ((0 : Int))), (.i ((0 : Int))), (.i ((0 : Int))), (.i ((0 : Int))), (.i ((0 : Int))), (.i ((0 : Int))), (.i ((1 : Int)))])
 (.br 37 (decide (x3 < (1 : Int)))
 (.ok [(.i ((0 : Int))), (.i ((0 : Int))), (.i ((0 : Int))), (.i ((0 : Int))), (.i ((0 : Int))), (.i ((0 : Int))), (.i ((0 : Int))), (.i ((0 : Int))), (.i ((1 : Int)))])
 (.br 41 (decide (x3 > (8 : Int)))
 (.ok [(.i ((0 : Int))), (.i ((0 : Int))), (.i ((0 : Int))), (.i ((0 : Int))), (.i ((0 : Int))), (.i ((0 : Int))), (.i ((0 : Int))), (.i ((0 : Int))), (.i ((1 : Int)))])
 (.br 0 (ok_refSeal (1526644958 : Int) (IntKind.wrap IntKind.u64 x0) (IntKind.wrap IntKind.u64 x1) (IntKind.wrap IntKind.u64 x2) (IntKind.wrap IntKind.u64 x3) (0 : Int) (0 : Int) (0 : Int))
 (.ok [(.i (r_refSeal_0 (1526644958 : Int) (IntKind.wrap IntKind.u64 x0) (IntKind.wrap IntKind.u64 x1) (IntKind.wrap IntKind.u64 x2) (IntKind.wrap IntKind.u64 x3) (0 : Int) (0 : Int))), (.i (r_refSeal_1 (1526644958 : Int) (IntKind.wrap IntKind.u64 x0) (IntKind.wrap IntKind.u64 x1) (IntKind.wrap IntKind.u64 x2) (IntKind.wrap IntKind.u64 x3) (0 : Int) (0 : Int))), (.i (r_refSeal_2 (1526644958 : Int) (IntKind.wrap IntKind.u64 x0) (IntKind.wrap IntKind.u64 x1) (IntKind.wrap IntKind.u64 x2) (IntKind.wrap IntKind.u64 x3) (0 : Int) (0 : Int))), (.i (r_refSeal_3 (1526644958 : Int) (IntKind.wrap IntKind.u64 x0) (IntKind.wrap IntKind.u64 x1) (IntKind.wrap IntKind.u64 x2) (IntKind.wrap IntKind.u64 x3) (0 : Int) (0 : Int))), (.i (r_refSeal_4 (1526644958 : Int) (IntKind.wrap IntKind.u64 x0) (IntKind.wrap IntKind.u64 x1) (IntKind.wrap IntKind.u64 x2) (IntKind.wrap IntKind.u64 x3) (0 : Int) (0 : Int))), (.i (r_refSeal_5 (1526644958 : Int) (IntKind.wrap IntKind.u64 x0) (IntKind.wrap IntKind.u64 x1) (IntKind.wrap IntKind.u64 x2) (IntKind.wrap IntKind.u64 x3) (0 : Int) (0 : Int))), (.i (r_refSeal_6 (1526644958 : Int) (IntKind.wrap IntKind.u64 x0) (IntKind.wrap IntKind.u64 x1) (IntKind.wrap IntKind.u64 x2) (IntKind.wrap IntKind.u64 x3) (0 : Int) (0 : Int))), (.i (r_refSeal_7 (1526644958 : Int) (IntKind.wrap IntKind.u64 x0) (IntKind.wrap IntKind.u64 x1) (IntKind.wrap IntKind.u64 x2) (IntKind.wrap IntKind.u64 x3) (0 : Int) (0 : Int))), (.i ((0 : Int)))])
 (.no)))))))))
def y_rLine : Nat → Option Nat := syOf3 [7, 12, 17, 22, 27, 32, 37, 41] [] []
def TL_rLine (l : List At) : Tr (List At) := T_rLine (aI l 0) (aI l 1) (aI l 2) (aI l 3)
theorem e_rLine (l : List At) : (call Try.prog Γ_sLine y_rLine noLoops 100 Try.f12 (mkV ish_rLine l) (mkH ish_rLine l)).bind (leafO 0 osh_rLine) = TL_rLine l := by kernel_rfl
def r_rLine_0 (x0 : Int) (x1 : Int) (x2 : Int) (x3 : Int) : Int :=
  bif decide (x0 < (1 : Int)) then ((0 : Int))
  else bif decide (x0 > (1099511627776 : Int)) then ((0 : Int))
  else bif decide (x1 < (0 : Int)) then ((0 : Int))
  else bif decide (x1 ≥ (1024 : Int)) then ((0 : Int))
  else bif decide (x2 < (0 : Int)) then ((0 : Int))
  else bif decide (x2 > (1099511627776 : Int)) then ((0 : Int))
  else bif decide (x3 < (1 : Int)) then ((0 : Int))
  else bif decide (x3 > (8 : Int)) then ((0 : Int))
  else bif ok_refSeal (1526644958 : Int) (IntKind.wrap IntKind.u64 x0) (IntKind.wrap IntKind.u64 x1) (IntKind.wrap IntKind.u64 x2) (IntKind.wrap IntKind.u64 x3) (0 : Int) (0 : Int) (0 : Int) then (r_refSeal_0 (1526644958 : Int) (IntKind.wrap IntKind.u64 x0) (IntKind.wrap IntKind.u64 x1) (IntKind.wrap IntKind.u64 x2) (IntKind.wrap IntKind.u64 x3) (0 : Int) (0 : Int))
  else 0
def r_rLine_1 (x0 : Int) (x1 : Int) (x2 : Int) (x3 : Int) : Int :=
  bif decide (x0 < (1 : Int)) then ((0 : Int))
  else bif decide (x0 > (1099511627776 : Int)) then ((0 : Int))
  else bif decide (x1 < (0 : Int)) then ((0 : Int))
  else bif decide (x1 ≥ (1024 : Int)) then ((0 : Int))
  else bif decide (x2 < (0 : Int)) then ((0 : Int))
  else bif decide (x2 > (1099511627776 : Int)) then ((0 : Int))
  else bif decide (x3 < (1 : Int)) then ((0 : Int))
  else bif decide (x3 > (8 : Int)) then ((0 : Int))
  else bif ok_refSeal (1526644958 : Int) (IntKind.wrap IntKind.u64 x0) (IntKind.wrap IntKind.u64 x1) (IntKind.wrap IntKind.u64 x2) (IntKind.wrap IntKind.u64 x3) (0 : Int) (0 : Int) (0 : Int) then (r_refSeal_1 (1526644958 : Int) (IntKind.wrap IntKind.u64 x0) (IntKind.wrap IntKind.u64 x1) (IntKind.wrap IntKind.u64 x2) (IntKind.wrap IntKind.u64 x3) (0 : Int) (0 : Int))
  else 0
def r_rLine_2 (x0 : Int) (x1 : Int) (x2 : Int) (x3 : Int) : Int :=
  bif decide (x0 < (1 : Int)) then ((0 : Int))
  else bif decide (x0 > (1099511627776 : Int)) then ((0 : Int))
  else bif decide (x1 < (0 : Int)) then ((0 : Int))
  else bif decide (x1 ≥ (1024 : Int)) then ((0 : Int))
  else bif decide (x2 < (0 : Int)) then ((0 : Int))
  else bif decide (x2 > (1099511627776 : Int)) then ((0 : Int))
  else bif decide (x3 < (1 : Int)) then ((0 : Int))
  else bif decide (x3 > (8 : Int)) then ((0 : Int))
  else bif ok_refSeal (1526644958 : Int) (IntKind.wrap IntKind.u64 x0) (IntKind.wrap IntKind.u64 x1) (IntKind.wrap IntKind.u64 x2) (IntKind.wrap IntKind.u64 x3) (0 : Int) (0 : Int) (0 : Int) then (r_refSeal_2 (1526644958 : Int) (IntKind.wrap IntKind.u64 x0) (IntKind.wrap IntKind.u64 x1) (IntKind.wrap IntKind.u64 x2) (IntKind.wrap IntKind.u64 x3) (0 : Int) (0 : Int))
  else 0
def r_rLine_3 (x0 : Int) (x1 : Int) (x2 : Int) (x3 : Int) : Int :=
  bif decide (x0 < (1 : Int)) then ((0 : Int))
  else bif decide (x0 > (1099511627776 : Int)) then ((0 : Int))
  else bif decide (x1 < (0 : Int)) then ((0 : Int))
  else bif decide (x1 ≥ (1024 : Int)) then ((0 : Int))
  else bif decide (x2 < (0 : Int)) then ((0 : Int))
  else bif decide (x2 > (1099511627776 : Int)) then ((0 : Int))
  else bif decide (x3 < (1 : Int)) then ((0 : Int))
  else bif decide (x3 > (8 : Int)) then ((0 : Int))
  else bif ok_refSeal (1526644958 : Int) (IntKind.wrap IntKind.u64 x0) (IntKind.wrap IntKind.u64 x1) (IntKind.wrap IntKind.u64 x2) (IntKind.wrap IntKind.u64 x3) (0 : Int) (0 : Int) (0 : Int) then (r_refSeal_3 (1526644958 : Int) (IntKind.wrap IntKind.u64 x0) (IntKind.wrap IntKind.u64 x1) (IntKind.wrap IntKind.u64 x2) (IntKind.wrap IntKind.u64 x3) (0 : Int) (0 : Int))
  else 0
def r_rLine_4 (x0 : Int) (x1 : Int) (x2 : Int) (x3 : Int) : Int :=
  bif decide (x0 < (1 : Int)) then ((0 : Int))
  else bif decide (x0 > (1099511627776 : Int)) then ((0 : Int))
  else bif decide (x1 < (0 : Int)) then ((0 : Int))
  else bif decide (x1 ≥ (1024 : Int)) then ((0 : Int))
  else bif decide (x2 < (0 : Int)) then ((0 : Int))
  else bif decide (x2 > (1099511627776 : Int)) then ((0 : Int))
  else bif decide (x3 < (1 : Int)) then ((0 : Int))
  else bif decide (x3 > (8 : Int)) then ((0 : Int))
  else bif ok_refSeal (1526644958 : Int) (IntKind.wrap IntKind.u64 x0) (IntKind.wrap IntKind.u64 x1) (IntKind.wrap IntKind.u64 x2) (IntKind.wrap IntKind.u64 x3) (0 : Int) (0 : Int) (0 : Int) then (r_refSeal_4 (1526644958 : Int) (IntKind.wrap IntKind.u64 x0) (IntKind.wrap IntKind.u64 x1) (IntKind.wrap IntKind.u64 x2) (IntKind.wrap IntKind.u64 x3) (0 : Int) (0 : Int))
  else 0
def r_rLine_5 (x0 : Int) (x1 : Int) (x2 : Int) (x3 : Int) : Int :=
  bif decide (x0 < (1 : Int)) then ((0 : Int))
  else bif decide (x0 > (1099511627776 : Int)) then ((0 : Int))
  else bif decide (x1 < (0 : Int)) then ((0 : Int))
  else bif decide (x1 ≥ (1024 : Int)) then ((0 : Int))
  else bif decide (x2 < (0 : Int)) then ((0 : Int))
  else bif decide (x2 > (1099511627776 : Int)) then ((0 : Int))
  else bif decide (x3 < (1 : Int)) then ((0 : Int))
  else bif decide (x3 > (8 : Int)) then ((0 : Int))
  else bif ok_refSeal (1526644958 : Int) (IntKind.wrap IntKind.u64 x0) (IntKind.wrap IntKind.u64 x1) (IntKind.wrap IntKind.u64 x2) (IntKind.wrap IntKind.u64 x3) (0 : Int) (0 : Int) (0 : Int) then (r_refSeal_5 (1526644958 : Int) (IntKind.wrap IntKind.u64 x0) (IntKind.wrap IntKind.u64 x1) (IntKind.wrap IntKind.u64 x2) (IntKind.wrap IntKind.u64 x3) (0 : Int) (0 : Int))
  else 0
def r_rLine_6 (x0 : Int) (x1 : Int) (x2 : Int) (x3 : Int) : Int :=
  bif decide (x0 < (1 : Int)) then ((0 : Int))
  else bif decide (x0 > (1099511627776 : Int)) then ((0 : Int))
  else bif decide (x1 < (0 : Int)) then ((0 : Int))
  else bif decide (x1 ≥ (1024 : Int)) then ((0 : Int))
  else bif decide (x2 < (0 : Int)) then ((0 : Int))
  else bif decide (x2 > (1099511627776 : Int)) then ((0 : Int))
  else bif decide (x3 < (1 : Int)) then ((0 : Int))
  else bif decide (x3 > (8 : Int)) then ((0 : Int))
  else bif ok_refSeal (1526644958 : Int) (IntKind.wrap IntKind.u64 x0) (IntKind.wrap IntKind.u64 x1) (IntKind.wrap IntKind.u64 x2) (IntKind.wrap IntKind.u64 x3) (0 : Int) (0 : Int) (0 : Int) then (r_refSeal_6 (1526644958 : Int) (IntKind.wrap IntKind.u64 x0) (IntKind.wrap IntKind.u64 x1) (IntKind.wrap IntKind.u64 x2) (IntKind.wrap IntKind.u64 x3) (0 : Int) (0 : Int))
  else 0
def r_rLine_7 (x0 : Int) (x1 : Int) (x2 : Int) (x3 : Int) : Int :=
  bif decide (x0 < (1 : Int)) then ((0 : Int))
  else bif decide (x0 > (1099511627776 : Int)) then ((0 : Int))
  else bif decide (x1 < (0 : Int)) then ((0 : Int))
  else bif decide (x1 ≥ (1024 : Int)) then ((0 : Int))
  else bif decide (x2 < (0 : Int)) then ((0 : Int))
  else bif decide (x2 > (1099511627776 : Int)) then ((0 : Int))
  else bif decide (x3 < (1 : Int)) then ((0 : Int))
  else bif decide (x3 > (8 : Int)) then ((0 : Int))
  else bif ok_refSeal (1526644958 : Int) (IntKind.wrap IntKind.u64 x0) (IntKind.wrap IntKind.u64 x1) (IntKind.wrap IntKind.u64 x2) (IntKind.wrap IntKind.u64 x3) (0 : Int) (0 : Int) (0 : Int) then (r_refSeal_7 (1526644958 : Int) (IntKind.wrap IntKind.u64 x0) (IntKind.wrap IntKind.u64 x1) (IntKind.wrap IntKind.u64 x2) (IntKind.wrap IntKind.u64 x3) (0 : Int) (0 : Int))
  else 0
def r_rLine_8 (x0 : Int) (x1 : Int) (x2 : Int) (x3 : Int) : Int :=
  bif decide (x0 < (1 : Int)) then ((1 : Int))
  else bif decide (x0 > (1099511627776 : Int)) then ((1 : Int))
  else bif decide (x1 < (0 : Int)) then ((1 : Int))
  else bif decide (x1 ≥ (1024 : Int)) then ((1 : Int))
  else bif decide (x2 < (0 : Int)) then ((1 : Int))
  else bif decide (x2 > (1099511627776 : Int)) then ((1 : Int))
  else bif decide (x3 < (1 : Int)) then ((1 : Int))
  else bif decide (x3 > (8 : Int)) then ((1 : Int))
  else bif ok_refSeal (1526644958 : Int) (IntKind.wrap IntKind.u64 x0) (IntKind.wrap IntKind.u64 x1) (IntKind.wrap IntKind.u64 x2) (IntKind.wrap IntKind.u64 x3) (0 : Int) (0 : Int) (0 : Int) then ((0 : Int))
  else 0
def ok_rLine (x0 : Int) (x1 : Int) (x2 : Int) (x3 : Int) : Bool :=
  bif decide (x0 < (1 : Int)) then (true)
  else bif decide (x0 > (1099511627776 : Int)) then (true)
  else bif decide (x1 < (0 : Int)) then (true)
  else bif decide (x1 ≥ (1024 : Int)) then (true)
  else bif decide (x2 < (0 : Int)) then (true)
  else bif decide (x2 > (1099511627776 : Int)) then (true)
  else bif decide (x3 < (1 : Int)) then (true)
  else bif decide (x3 > (8 : Int)) then (true)
  else bif ok_refSeal (1526644958 : Int) (IntKind.wrap IntKind.u64 x0) (IntKind.wrap IntKind.u64 x1) (IntKind.wrap IntKind.u64 x2) (IntKind.wrap IntKind.u64 x3) (0 : Int) (0 : Int) (0 : Int) then (true)
  else false
def F_rLine : List At → Tr (List At) := fun l => .br 0 (ok_rLine (aI l 0) (aI l 1) (aI l 2) (aI l 3)) (.ok [.i (r_rLine_0 (aI l 0) (aI l 1) (aI l 2) (aI l 3)), .i (r_rLine_1 (aI l 0) (aI l 1) (aI l 2) (aI l 3)), .i (r_rLine_2 (aI l 0) (aI l 1) (aI l 2) (aI l 3)), .i (r_rLine_3 (aI l 0) (aI l 1) (aI l 2) (aI l 3)), .i (r_rLine_4 (aI l 0) (aI l 1) (aI l 2) (aI l 3)), .i (r_rLine_5 (aI l 0) (aI l 1) (aI l 2) (aI l 3)), .i (r_rLine_6 (aI l 0) (aI l 1) (aI l 2) (aI l 3)), .i (r_rLine_7 (aI l 0) (aI l 1) (aI l 2) (aI l 3)), .i (r_rLine_8 (aI l 0) (aI l 1) (aI l 2) (aI l 3))]) .no
theorem s_rLine : SpecF Try.prog 12 (.pure (locP ish_rLine osh_rLine F_rLine)) :=
  spec_locP (sy := y_rLine) (fuel := 100) (Lp := noLoops) o_sLine mixed ⟨Try.func12, by kernel_rfl, by kernel_rfl⟩ ish_rLine osh_rLine rfl (noLoops_ok _) (hT_merged [.i, .i, .i, .i, .i, .i, .i, .i, .i] e_rLine (fun l => by kernel_rfl) (fun l => by kernel_rfl))
def Γ_rLine : Specs := upd Γ_sLine 12 (.pure (locP ish_rLine osh_rLine F_rLine))
theorem o_rLine : SpecOK Try.prog Γ_rLine := SpecOK.upd o_sLine s_rLine

/-! ### sRead -/

def ish_sRead : FSh := ⟨[.v true [.k (.n .u64), .k (.n .u64), .k (.n .u64), .k (.n .u64), .k (.n .u64), .k (.n .u64), .k (.n .u64), .k (.n .u64)]], []⟩
def osh_sRead : FSh := ⟨[.tup [(true, [.k (.n .i64), .k (.n .i64), .k (.n .i64), .k (.n .i64)]), (false, [.k .b])]], []⟩
def T_sRead (x0 : Int) (x1 : Int) (x2 : Int) (x3 : Int) (x4 : Int) (x5 : Int) (x6 : Int) (x7 : Int) : Tr (List At) :=
 .br 0 (ok_sLine (IntKind.wrap IntKind.i64 x1) (IntKind.wrap IntKind.i64 x2) (IntKind.wrap IntKind.i64 x3) (IntKind.wrap IntKind.i64 x4))
 (.br 27 (r_sLine_8 (IntKind.wrap IntKind.i64 x1) (IntKind.wrap IntKind.i64 x2) (IntKind.wrap IntKind.i64 x3) (IntKind.wrap IntKind.i64 x4) != (0 : Int))
 (.ok [(.i ((0 : Int))), (.i ((0 : Int))), (.i ((0 : Int))), (.i ((0 : Int))), (.b (false))])
 (.br 31 (!(r_sLine_0 (IntKind.wrap IntKind.i64 x1) (IntKind.wrap IntKind.i64 x2) (IntKind.wrap IntKind.i64 x3) (IntKind.wrap IntKind.i64 x4) == x0 && (r_sLine_1 (IntKind.wrap IntKind.i64 x1) (IntKind.wrap IntKind.i64 x2) (IntKind.wrap IntKind.i64 x3) (IntKind.wrap IntKind.i64 x4) == x1 && (r_sLine_2 (IntKind.wrap IntKind.i64 x1) (IntKind.wrap IntKind.i64 x2) (IntKind.wrap IntKind.i64 x3) (IntKind.wrap IntKind.i64 x4) == x2 && (r_sLine_3 (IntKind.wrap IntKind.i64 x1) (IntKind.wrap IntKind.i64 x2) (IntKind.wrap IntKind.i64 x3) (IntKind.wrap IntKind.i64 x4) == x3 && (r_sLine_4 (IntKind.wrap IntKind.i64 x1) (IntKind.wrap IntKind.i64 x2) (IntKind.wrap IntKind.i64 x3) (IntKind.wrap IntKind.i64 x4) == x4 && (r_sLine_5 (IntKind.wrap IntKind.i64 x1) (IntKind.wrap IntKind.i64 x2) (IntKind.wrap IntKind.i64 x3) (IntKind.wrap IntKind.i64 x4) == x5 && (r_sLine_6 (IntKind.wrap IntKind.i64 x1) (IntKind.wrap IntKind.i64 x2) (IntKind.wrap IntKind.i64 x3) (IntKind.wrap IntKind.i64 x4) == x6 && (r_sLine_7 (IntKind.wrap IntKind.i64 x1) (IntKind.wrap IntKind.i64 x2) (IntKind.wrap IntKind.i64 x3) (IntKind.wrap IntKind.i64 x4) == x7 && true)))))))))
 (.ok [(.i ((0 : Int))), (.i ((0 : Int))), (.i ((0 : Int))), (.i ((0 : Int))), (.b (false))])
 (.ok [(.i (IntKind.wrap IntKind.i64 x1)), (.i (IntKind.wrap IntKind.i64 x2)), (.i (IntKind.wrap IntKind.i64 x3)), (.i (IntKind.wrap IntKind.i64 x4)), (.b (true))])))
 (.no)
def y_sRead : Nat → Option Nat := syOf3 [27, 31] [] []
def TL_sRead (l : List At) : Tr (List At) := T_sRead (aI l 0) (aI l 1) (aI l 2) (aI l 3) (aI l 4) (aI l 5) (aI l 6) (aI l 7)
theorem e_sRead (l : List At) : (call Try.prog Γ_rLine y_sRead noLoops 100 Try.f13 (mkV ish_sRead l) (mkH ish_sRead l)).bind (leafO 0 osh_sRead) = TL_sRead l := by kernel_rfl
def r_sRead_0 (x0 : Int) (x1 : Int) (x2 : Int) (x3 : Int) (x4 : Int) (x5 : Int) (x6 : Int) (x7 : Int) : Int :=
  bif ok_sLine (IntKind.wrap IntKind.i64 x1) (IntKind.wrap IntKind.i64 x2) (IntKind.wrap IntKind.i64 x3) (IntKind.wrap IntKind.i64 x4) then (bif r_sLine_8 (IntKind.wrap IntKind.i64 x1) (IntKind.wrap IntKind.i64 x2) (IntKind.wrap IntKind.i64 x3) (IntKind.wrap IntKind.i64 x4) != (0 : Int) then ((0 : Int))
  else bif !(r_sLine_0 (IntKind.wrap IntKind.i64 x1) (IntKind.wrap IntKind.i64 x2) (IntKind.wrap IntKind.i64 x3) (IntKind.wrap IntKind.i64 x4) == x0 && (r_sLine_1 (IntKind.wrap IntKind.i64 x1) (IntKind.wrap IntKind.i64 x2) (IntKind.wrap IntKind.i64 x3) (IntKind.wrap IntKind.i64 x4) == x1 && (r_sLine_2 (IntKind.wrap IntKind.i64 x1) (IntKind.wrap IntKind.i64 x2) (IntKind.wrap IntKind.i64 x3) (IntKind.wrap IntKind.i64 x4) == x2 && (r_sLine_3 (IntKind.wrap IntKind.i64 x1) (IntKind.wrap IntKind.i64 x2) (IntKind.wrap IntKind.i64 x3) (IntKind.wrap IntKind.i64 x4) == x3 && (r_sLine_4 (IntKind.wrap IntKind.i64 x1) (IntKind.wrap IntKind.i64 x2) (IntKind.wrap IntKind.i64 x3) (IntKind.wrap IntKind.i64 x4) == x4 && (r_sLine_5 (IntKind.wrap IntKind.i64 x1) (IntKind.wrap IntKind.i64 x2) (IntKind.wrap IntKind.i64 x3) (IntKind.wrap IntKind.i64 x4) == x5 && (r_sLine_6 (IntKind.wrap IntKind.i64 x1) (IntKind.wrap IntKind.i64 x2) (IntKind.wrap IntKind.i64 x3) (IntKind.wrap IntKind.i64 x4) == x6 && (r_sLine_7 (IntKind.wrap IntKind.i64 x1) (IntKind.wrap IntKind.i64 x2) (IntKind.wrap IntKind.i64 x3) (IntKind.wrap IntKind.i64 x4) == x7 && true)))))))) then ((0 : Int))
  else IntKind.wrap IntKind.i64 x1)
  else 0
def r_sRead_1 (x0 : Int) (x1 : Int) (x2 : Int) (x3 : Int) (x4 : Int) (x5 : Int) (x6 : Int) (x7 : Int) : Int :=
  bif ok_sLine (IntKind.wrap IntKind.i64 x1) (IntKind.wrap IntKind.i64 x2) (IntKind.wrap IntKind.i64 x3) (IntKind.wrap IntKind.i64 x4) then (bif r_sLine_8 (IntKind.wrap IntKind.i64 x1) (IntKind.wrap IntKind.i64 x2) (IntKind.wrap IntKind.i64 x3) (IntKind.wrap IntKind.i64 x4) != (0 : Int) then ((0 : Int))
  else bif !(r_sLine_0 (IntKind.wrap IntKind.i64 x1) (IntKind.wrap IntKind.i64 x2) (IntKind.wrap IntKind.i64 x3) (IntKind.wrap IntKind.i64 x4) == x0 && (r_sLine_1 (IntKind.wrap IntKind.i64 x1) (IntKind.wrap IntKind.i64 x2) (IntKind.wrap IntKind.i64 x3) (IntKind.wrap IntKind.i64 x4) == x1 && (r_sLine_2 (IntKind.wrap IntKind.i64 x1) (IntKind.wrap IntKind.i64 x2) (IntKind.wrap IntKind.i64 x3) (IntKind.wrap IntKind.i64 x4) == x2 && (r_sLine_3 (IntKind.wrap IntKind.i64 x1) (IntKind.wrap IntKind.i64 x2) (IntKind.wrap IntKind.i64 x3) (IntKind.wrap IntKind.i64 x4) == x3 && (r_sLine_4 (IntKind.wrap IntKind.i64 x1) (IntKind.wrap IntKind.i64 x2) (IntKind.wrap IntKind.i64 x3) (IntKind.wrap IntKind.i64 x4) == x4 && (r_sLine_5 (IntKind.wrap IntKind.i64 x1) (IntKind.wrap IntKind.i64 x2) (IntKind.wrap IntKind.i64 x3) (IntKind.wrap IntKind.i64 x4) == x5 && (r_sLine_6 (IntKind.wrap IntKind.i64 x1) (IntKind.wrap IntKind.i64 x2) (IntKind.wrap IntKind.i64 x3) (IntKind.wrap IntKind.i64 x4) == x6 && (r_sLine_7 (IntKind.wrap IntKind.i64 x1) (IntKind.wrap IntKind.i64 x2) (IntKind.wrap IntKind.i64 x3) (IntKind.wrap IntKind.i64 x4) == x7 && true)))))))) then ((0 : Int))
  else IntKind.wrap IntKind.i64 x2)
  else 0
def r_sRead_2 (x0 : Int) (x1 : Int) (x2 : Int) (x3 : Int) (x4 : Int) (x5 : Int) (x6 : Int) (x7 : Int) : Int :=
  bif ok_sLine (IntKind.wrap IntKind.i64 x1) (IntKind.wrap IntKind.i64 x2) (IntKind.wrap IntKind.i64 x3) (IntKind.wrap IntKind.i64 x4) then (bif r_sLine_8 (IntKind.wrap IntKind.i64 x1) (IntKind.wrap IntKind.i64 x2) (IntKind.wrap IntKind.i64 x3) (IntKind.wrap IntKind.i64 x4) != (0 : Int) then ((0 : Int))
  else bif !(r_sLine_0 (IntKind.wrap IntKind.i64 x1) (IntKind.wrap IntKind.i64 x2) (IntKind.wrap IntKind.i64 x3) (IntKind.wrap IntKind.i64 x4) == x0 && (r_sLine_1 (IntKind.wrap IntKind.i64 x1) (IntKind.wrap IntKind.i64 x2) (IntKind.wrap IntKind.i64 x3) (IntKind.wrap IntKind.i64 x4) == x1 && (r_sLine_2 (IntKind.wrap IntKind.i64 x1) (IntKind.wrap IntKind.i64 x2) (IntKind.wrap IntKind.i64 x3) (IntKind.wrap IntKind.i64 x4) == x2 && (r_sLine_3 (IntKind.wrap IntKind.i64 x1) (IntKind.wrap IntKind.i64 x2) (IntKind.wrap IntKind.i64 x3) (IntKind.wrap IntKind.i64 x4) == x3 && (r_sLine_4 (IntKind.wrap IntKind.i64 x1) (IntKind.wrap IntKind.i64 x2) (IntKind.wrap IntKind.i64 x3) (IntKind.wrap IntKind.i64 x4) == x4 && (r_sLine_5 (IntKind.wrap IntKind.i64 x1) (IntKind.wrap IntKind.i64 x2) (IntKind.wrap IntKind.i64 x3) (IntKind.wrap IntKind.i64 x4) == x5 && (r_sLine_6 (IntKind.wrap IntKind.i64 x1) (IntKind.wrap IntKind.i64 x2) (IntKind.wrap IntKind.i64 x3) (IntKind.wrap IntKind.i64 x4) == x6 && (r_sLine_7 (IntKind.wrap IntKind.i64 x1) (IntKind.wrap IntKind.i64 x2) (IntKind.wrap IntKind.i64 x3) (IntKind.wrap IntKind.i64 x4) == x7 && true)))))))) then ((0 : Int))
  else IntKind.wrap IntKind.i64 x3)
  else 0
def r_sRead_3 (x0 : Int) (x1 : Int) (x2 : Int) (x3 : Int) (x4 : Int) (x5 : Int) (x6 : Int) (x7 : Int) : Int :=
  bif ok_sLine (IntKind.wrap IntKind.i64 x1) (IntKind.wrap IntKind.i64 x2) (IntKind.wrap IntKind.i64 x3) (IntKind.wrap IntKind.i64 x4) then (bif r_sLine_8 (IntKind.wrap IntKind.i64 x1) (IntKind.wrap IntKind.i64 x2) (IntKind.wrap IntKind.i64 x3) (IntKind.wrap IntKind.i64 x4) != (0 : Int) then ((0 : Int))
  else bif !(r_sLine_0 (IntKind.wrap IntKind.i64 x1) (IntKind.wrap IntKind.i64 x2) (IntKind.wrap IntKind.i64 x3) (IntKind.wrap IntKind.i64 x4) == x0 && (r_sLine_1 (IntKind.wrap IntKind.i64 x1) (IntKind.wrap IntKind.i64 x2) (IntKind.wrap IntKind.i64 x3) (IntKind.wrap IntKind.i64 x4) == x1 && (r_sLine_2 (IntKind.wrap IntKind.i64 x1) (IntKind.wrap IntKind.i64 x2) (IntKind.wrap IntKind.i64 x3) (IntKind.wrap IntKind.i64 x4) == x2 && (r_sLine_3 (IntKind.wrap IntKind.i64 x1) (IntKind.wrap IntKind.i64 x2) (IntKind.wrap IntKind.i64 x3) (IntKind.wrap IntKind.i64 x4) == x3 && (r_sLine_4 (IntKind.wrap IntKind.i64 x1) (IntKind.wrap IntKind.i64 x2) (IntKind.wrap IntKind.i64 x3) (IntKind.wrap IntKind.i64 x4) == x4 && (r_sLine_5 (IntKind.wrap IntKind.i64 x1) (IntKind.wrap IntKind.i64 x2) (IntKind.wrap IntKind.i64 x3) (IntKind.wrap IntKind.i64 x4) == x5 && (r_sLine_6 (IntKind.wrap IntKind.i64 x1) (IntKind.wrap IntKind.i64 x2) (IntKind.wrap IntKind.i64 x3) (IntKind.wrap IntKind.i64 x4) == x6 && (r_sLine_7 (IntKind.wrap IntKind.i64 x1) (IntKind.wrap IntKind.i64 x2) (IntKind.wrap IntKind.i64 x3) (IntKind.wrap IntKind.i64 x4) == x7 && true)))))))) then ((0 : Int))
  else IntKind.wrap IntKind.i64 x4)
  else 0
def r_sRead_4 (x0 : Int) (x1 : Int) (x2 : Int) (x3 : Int) (x4 : Int) (x5 : Int) (x6 : Int) (x7 : Int) : Bool :=
  bif ok_sLine (IntKind.wrap IntKind.i64 x1) (IntKind.wrap IntKind.i64 x2) (IntKind.wrap IntKind.i64 x3) (IntKind.wrap IntKind.i64 x4) then (bif r_sLine_8 (IntKind.wrap IntKind.i64 x1) (IntKind.wrap IntKind.i64 x2) (IntKind.wrap IntKind.i64 x3) (IntKind.wrap IntKind.i64 x4) != (0 : Int) then (false)
  else bif !(r_sLine_0 (IntKind.wrap IntKind.i64 x1) (IntKind.wrap IntKind.i64 x2) (IntKind.wrap IntKind.i64 x3) (IntKind.wrap IntKind.i64 x4) == x0 && (r_sLine_1 (IntKind.wrap IntKind.i64 x1) (IntKind.wrap IntKind.i64 x2) (IntKind.wrap IntKind.i64 x3) (IntKind.wrap IntKind.i64 x4) == x1 && (r_sLine_2 (IntKind.wrap IntKind.i64 x1) (IntKind.wrap IntKind.i64 x2) (IntKind.wrap IntKind.i64 x3) (IntKind.wrap IntKind.i64 x4) == x2 && (r_sLine_3 (IntKind.wrap IntKind.i64 x1) (IntKind.wrap IntKind.i64 x2) (IntKind.wrap IntKind.i64 x3) (IntKind.wrap IntKind.i64 x4) == x3 && (r_sLine_4 (IntKind.wrap IntKind.i64 x1) (IntKind.wrap IntKind.i64 x2) (IntKind.wrap IntKind.i64 x3) (IntKind.wrap IntKind.i64 x4) == x4 && (r_sLine_5 (IntKind.wrap IntKind.i64 x1) (IntKind.wrap IntKind.i64 x2) (IntKind.wrap IntKind.i64 x3) (IntKind.wrap IntKind.i64 x4) == x5 && (r_sLine_6 (IntKind.wrap IntKind.i64 x1) (IntKind.wrap IntKind.i64 x2) (IntKind.wrap IntKind.i64 x3) (IntKind.wrap IntKind.i64 x4) == x6 && (r_sLine_7 (IntKind.wrap IntKind.i64 x1) (IntKind.wrap IntKind.i64 x2) (IntKind.wrap IntKind.i64 x3) (IntKind.wrap IntKind.i64 x4) == x7 && true)))))))) then (false)
  else true)
  else false
def ok_sRead (x0 : Int) (x1 : Int) (x2 : Int) (x3 : Int) (x4 : Int) (x5 : Int) (x6 : Int) (x7 : Int) : Bool :=
  bif ok_sLine (IntKind.wrap IntKind.i64 x1) (IntKind.wrap IntKind.i64 x2) (IntKind.wrap IntKind.i64 x3) (IntKind.wrap IntKind.i64 x4) then (bif r_sLine_8 (IntKind.wrap IntKind.i64 x1) (IntKind.wrap IntKind.i64 x2) (IntKind.wrap IntKind.i64 x3) (IntKind.wrap IntKind.i64 x4) != (0 : Int) then (true)
  else bif !(r_sLine_0 (IntKind.wrap IntKind.i64 x1) (IntKind.wrap IntKind.i64 x2) (IntKind.wrap IntKind.i64 x3) (IntKind.wrap IntKind.i64 x4) == x0 && (r_sLine_1 (IntKind.wrap IntKind.i64 x1) (IntKind.wrap IntKind.i64 x2) (IntKind.wrap IntKind.i64 x3) (IntKind.wrap IntKind.i64 x4) == x1 && (r_sLine_2 (IntKind.wrap IntKind.i64 x1) (IntKind.wrap IntKind.i64 x2) (IntKind.wrap IntKind.i64 x3) (IntKind.wrap IntKind.i64 x4) == x2 && (r_sLine_3 (IntKind.wrap IntKind.i64 x1) (IntKind.wrap IntKind.i64 x2) (IntKind.wrap IntKind.i64 x3) (IntKind.wrap IntKind.i64 x4) == x3 && (r_sLine_4 (IntKind.wrap IntKind.i64 x1) (IntKind.wrap IntKind.i64 x2) (IntKind.wrap IntKind.i64 x3) (IntKind.wrap IntKind.i64 x4) == x4 && (r_sLine_5 (IntKind.wrap IntKind.i64 x1) (IntKind.wrap IntKind.i64 x2) (IntKind.wrap IntKind.i64 x3) (IntKind.wrap IntKind.i64 x4) == x5 && (r_sLine_6 (IntKind.wrap IntKind.i64 x1) (IntKind.wrap IntKind.i64 x2) (IntKind.wrap IntKind.i64 x3) (IntKind.wrap IntKind.i64 x4) == x6 && (r_sLine_7 (IntKind.wrap IntKind.i64 x1) (IntKind.wrap IntKind.i64 x2) (IntKind.wrap IntKind.i64 x3) (IntKind.wrap IntKind.i64 x4) == x7 && true)))))))) then (true)
  else true)
  else false
def F_sRead : List At → Tr (List At) := fun l => .br 0 (ok_sRead (aI l 0) (aI l 1) (aI l 2) (aI l 3) (aI l 4) (aI l 5) (aI l 6) (aI l 7)) (.ok [.i (r_sRead_0 (aI l 0) (aI l 1) (aI l 2) (aI l 3) (aI l 4) (aI l 5) (aI l 6) (aI l 7)), .i (r_sRead_1 (aI l 0) (aI l 1) (aI l 2) (aI l 3) (aI l 4) (aI l 5) (aI l 6) (aI l 7)), .i (r_sRead_2 (aI l 0) (aI l 1) (aI l 2) (aI l 3) (aI l 4) (aI l 5) (aI l 6) (aI l 7)), .i (r_sRead_3 (aI l 0) (aI l 1) (aI l 2) (aI l 3) (aI l 4) (aI l 5) (aI l 6) (aI l 7)), .b (r_sRead_4 (aI l 0) (aI l 1) (aI l 2) (aI l 3) (aI l 4) (aI l 5) (aI l 6) (aI l 7))]) .no
theorem s_sRead : SpecF Try.prog 13 (.pure (locP ish_sRead osh_sRead F_sRead)) :=
  spec_locP (sy := y_sRead) (fuel := 100) (Lp := noLoops) o_rLine mixed ⟨Try.func13, by kernel_rfl, by kernel_rfl⟩ ish_sRead osh_sRead rfl (noLoops_ok _) (hT_merged [.i, .i, .i, .i, .b] e_sRead (fun l => by kernel_rfl) (fun l => by kernel_rfl))
def Γ_sRead : Specs := upd Γ_rLine 13 (.pure (locP ish_sRead osh_sRead F_sRead))
theorem o_sRead : SpecOK Try.prog Γ_sRead := SpecOK.upd o_rLine s_sRead

/-! ### rRead -/

def ish_rRead : FSh := ⟨[.v true [.k (.n .u64), .k (.n .u64), .k (.n .u64), .k (.n .u64), .k (.n .u64), .k (.n .u64), .k (.n .u64), .k (.n .u64)]], []⟩
def osh_rRead : FSh := ⟨[.tup [(true, [.k (.n .i64), .k (.n .i64), .k (.n .i64), .k (.n .i64)]), (false, [.k .b])]], []⟩
def T_rRead (x0 : Int) (x1 : Int) (x2 : Int) (x3 : Int) (x4 : Int) (x5 : Int) (x6 : Int) (x7 : Int) : Tr (List At) :=
 .br 0 (ok_rLine (IntKind.wrap IntKind.i64 x1) (IntKind.wrap IntKind.i64 x2) (IntKind.wrap IntKind.i64 x3) (IntKind.wrap IntKind.i64 x4))
 (.br 27 (r_rLine_8 (IntKind.wrap IntKind.i64 x1) (IntKind.wrap IntKind.i64 x2) (IntKind.wrap IntKind.i64 x3) (IntKind.wrap IntKind.i64 x4) != (0 : Int))
 (.ok [(.i ((0 : Int))), (.i ((0 : Int))), (.i ((0 : Int))), (.i ((0 : Int))), (.b (false))])
 (.br 31 (!(r_rLine_0 (IntKind.wrap IntKind.i64 x1) (IntKind.wrap IntKind.i64 x2) (IntKind.wrap IntKind.i64 x3) (IntKind.wrap IntKind.i64 x4) == x0 && (r_rLine_1 (IntKind.wrap IntKind.i64 x1) (IntKind.wrap IntKind.i64 x2) (IntKind.wrap IntKind.i64 x3) (IntKind.wrap IntKind.i64 x4) == x1 && (r_rLine_2 (IntKind.wrap IntKind.i64 x1) (IntKind.wrap IntKind.i64 x2) (IntKind.wrap IntKind.i64 x3) (IntKind.wrap IntKind.i64 x4) == x2 && (r_rLine_3 (IntKind.wrap IntKind.i64 x1) (IntKind.wrap IntKind.i64 x2) (IntKind.wrap IntKind.i64 x3) (IntKind.wrap IntKind.i64 x4) == x3 && (r_rLine_4 (IntKind.wrap IntKind.i64 x1) (IntKind.wrap IntKind.i64 x2) (IntKind.wrap IntKind.i64 x3) (IntKind.wrap IntKind.i64 x4) == x4 && (r_rLine_5 (IntKind.wrap IntKind.i64 x1) (IntKind.wrap IntKind.i64 x2) (IntKind.wrap IntKind.i64 x3) (IntKind.wrap IntKind.i64 x4) == x5 && (r_rLine_6 (IntKind.wrap IntKind.i64 x1) (IntKind.wrap IntKind.i64 x2) (IntKind.wrap IntKind.i64 x3) (IntKind.wrap IntKind.i64 x4) == x6 && (r_rLine_7 (IntKind.wrap IntKind.i64 x1) (IntKind.wrap IntKind.i64 x2) (IntKind.wrap IntKind.i64 x3) (IntKind.wrap IntKind.i64 x4) == x7 && true)))))))))
 (.ok [(.i ((0 : Int))), (.i ((0 : Int))), (.i ((0 : Int))), (.i ((0 : Int))), (.b (false))])
 (.ok [(.i (IntKind.wrap IntKind.i64 x1)), (.i (IntKind.wrap IntKind.i64 x2)), (.i (IntKind.wrap IntKind.i64 x3)), (.i (IntKind.wrap IntKind.i64 x4)), (.b (true))])))
 (.no)
def y_rRead : Nat → Option Nat := syOf3 [27, 31] [] []
def TL_rRead (l : List At) : Tr (List At) := T_rRead (aI l 0) (aI l 1) (aI l 2) (aI l 3) (aI l 4) (aI l 5) (aI l 6) (aI l 7)
theorem e_rRead (l : List At) : (call Try.prog Γ_sRead y_rRead noLoops 100 Try.f14 (mkV ish_rRead l) (mkH ish_rRead l)).bind (leafO 0 osh_rRead) = TL_rRead l := by kernel_rfl
def r_rRead_0 (x0 : Int) (x1 : Int) (x2 : Int) (x3 : Int) (x4 : Int) (x5 : Int) (x6 : Int) (x7 : Int) : Int :=
  bif ok_rLine (IntKind.wrap IntKind.i64 x1) (IntKind.wrap IntKind.i64 x2) (IntKind.wrap IntKind.i64 x3) (IntKind.wrap IntKind.i64 x4) then (bif r_rLine_8 (IntKind.wrap IntKind.i64 x1) (IntKind.wrap IntKind.i64 x2) (IntKind.wrap IntKind.i64 x3) (IntKind.wrap IntKind.i64 x4) != (0 : Int) then ((0 : Int))
  else bif !(r_rLine_0 (IntKind.wrap IntKind.i64 x1) (IntKind.wrap IntKind.i64 x2) (IntKind.wrap IntKind.i64 x3) (IntKind.wrap IntKind.i64 x4) == x0 && (r_rLine_1 (IntKind.wrap IntKind.i64 x1) (IntKind.wrap IntKind.i64 x2) (IntKind.wrap IntKind.i64 x3) (IntKind.wrap IntKind.i64 x4) == x1 && (r_rLine_2 (IntKind.wrap IntKind.i64 x1) (IntKind.wrap IntKind.i64 x2) (IntKind.wrap IntKind.i64 x3) (IntKind.wrap IntKind.i64 x4) == x2 && (r_rLine_3 (IntKind.wrap IntKind.i64 x1) (IntKind.wrap IntKind.i64 x2) (IntKind.wrap IntKind.i64 x3) (IntKind.wrap IntKind.i64 x4) == x3 && (r_rLine_4 (IntKind.wrap IntKind.i64 x1) (IntKind.wrap IntKind.i64 x2) (IntKind.wrap IntKind.i64 x3) (IntKind.wrap IntKind.i64 x4) == x4 && (r_rLine_5 (IntKind.wrap IntKind.i64 x1) (IntKind.wrap IntKind.i64 x2) (IntKind.wrap IntKind.i64 x3) (IntKind.wrap IntKind.i64 x4) == x5 && (r_rLine_6 (IntKind.wrap IntKind.i64 x1) (IntKind.wrap IntKind.i64 x2) (IntKind.wrap IntKind.i64 x3) (IntKind.wrap IntKind.i64 x4) == x6 && (r_rLine_7 (IntKind.wrap IntKind.i64 x1) (IntKind.wrap IntKind.i64 x2) (IntKind.wrap IntKind.i64 x3) (IntKind.wrap IntKind.i64 x4) == x7 && true)))))))) then ((0 : Int))
  else IntKind.wrap IntKind.i64 x1)
  else 0
def r_rRead_1 (x0 : Int) (x1 : Int) (x2 : Int) (x3 : Int) (x4 : Int) (x5 : Int) (x6 : Int) (x7 : Int) : Int :=
  bif ok_rLine (IntKind.wrap IntKind.i64 x1) (IntKind.wrap IntKind.i64 x2) (IntKind.wrap IntKind.i64 x3) (IntKind.wrap IntKind.i64 x4) then (bif r_rLine_8 (IntKind.wrap IntKind.i64 x1) (IntKind.wrap IntKind.i64 x2) (IntKind.wrap IntKind.i64 x3) (IntKind.wrap IntKind.i64 x4) != (0 : Int) then ((0 : Int))
  else bif !(r_rLine_0 (IntKind.wrap IntKind.i64 x1) (IntKind.wrap IntKind.i64 x2) (IntKind.wrap IntKind.i64 x3) (IntKind.wrap IntKind.i64 x4) == x0 && (r_rLine_1 (IntKind.wrap IntKind.i64 x1) (IntKind.wrap IntKind.i64 x2) (IntKind.wrap IntKind.i64 x3) (IntKind.wrap IntKind.i64 x4) == x1 && (r_rLine_2 (IntKind.wrap IntKind.i64 x1) (IntKind.wrap IntKind.i64 x2) (IntKind.wrap IntKind.i64 x3) (IntKind.wrap IntKind.i64 x4) == x2 && (r_rLine_3 (IntKind.wrap IntKind.i64 x1) (IntKind.wrap IntKind.i64 x2) (IntKind.wrap IntKind.i64 x3) (IntKind.wrap IntKind.i64 x4) == x3 && (r_rLine_4 (IntKind.wrap IntKind.i64 x1) (IntKind.wrap IntKind.i64 x2) (IntKind.wrap IntKind.i64 x3) (IntKind.wrap IntKind.i64 x4) == x4 && (r_rLine_5 (IntKind.wrap IntKind.i64 x1) (IntKind.wrap IntKind.i64 x2) (IntKind.wrap IntKind.i64 x3) (IntKind.wrap IntKind.i64 x4) == x5 && (r_rLine_6 (IntKind.wrap IntKind.i64 x1) (IntKind.wrap IntKind.i64 x2) (IntKind.wrap IntKind.i64 x3) (IntKind.wrap IntKind.i64 x4) == x6 && (r_rLine_7 (IntKind.wrap IntKind.i64 x1) (IntKind.wrap IntKind.i64 x2) (IntKind.wrap IntKind.i64 x3) (IntKind.wrap IntKind.i64 x4) == x7 && true)))))))) then ((0 : Int))
  else IntKind.wrap IntKind.i64 x2)
  else 0
def r_rRead_2 (x0 : Int) (x1 : Int) (x2 : Int) (x3 : Int) (x4 : Int) (x5 : Int) (x6 : Int) (x7 : Int) : Int :=
  bif ok_rLine (IntKind.wrap IntKind.i64 x1) (IntKind.wrap IntKind.i64 x2) (IntKind.wrap IntKind.i64 x3) (IntKind.wrap IntKind.i64 x4) then (bif r_rLine_8 (IntKind.wrap IntKind.i64 x1) (IntKind.wrap IntKind.i64 x2) (IntKind.wrap IntKind.i64 x3) (IntKind.wrap IntKind.i64 x4) != (0 : Int) then ((0 : Int))
  else bif !(r_rLine_0 (IntKind.wrap IntKind.i64 x1) (IntKind.wrap IntKind.i64 x2) (IntKind.wrap IntKind.i64 x3) (IntKind.wrap IntKind.i64 x4) == x0 && (r_rLine_1 (IntKind.wrap IntKind.i64 x1) (IntKind.wrap IntKind.i64 x2) (IntKind.wrap IntKind.i64 x3) (IntKind.wrap IntKind.i64 x4) == x1 && (r_rLine_2 (IntKind.wrap IntKind.i64 x1) (IntKind.wrap IntKind.i64 x2) (IntKind.wrap IntKind.i64 x3) (IntKind.wrap IntKind.i64 x4) == x2 && (r_rLine_3 (IntKind.wrap IntKind.i64 x1) (IntKind.wrap IntKind.i64 x2) (IntKind.wrap IntKind.i64 x3) (IntKind.wrap IntKind.i64 x4) == x3 && (r_rLine_4 (IntKind.wrap IntKind.i64 x1) (IntKind.wrap IntKind.i64 x2) (IntKind.wrap IntKind.i64 x3) (IntKind.wrap IntKind.i64 x4) == x4 && (r_rLine_5 (IntKind.wrap IntKind.i64 x1) (IntKind.wrap IntKind.i64 x2) (IntKind.wrap IntKind.i64 x3) (IntKind.wrap IntKind.i64 x4) == x5 && (r_rLine_6 (IntKind.wrap IntKind.i64 x1) (IntKind.wrap IntKind.i64 x2) (IntKind.wrap IntKind.i64 x3) (IntKind.wrap IntKind.i64 x4) == x6 && (r_rLine_7 (IntKind.wrap IntKind.i64 x1) (IntKind.wrap IntKind.i64 x2) (IntKind.wrap IntKind.i64 x3) (IntKind.wrap IntKind.i64 x4) == x7 && true)))))))) then ((0 : Int))
  else IntKind.wrap IntKind.i64 x3)
  else 0
def r_rRead_3 (x0 : Int) (x1 : Int) (x2 : Int) (x3 : Int) (x4 : Int) (x5 : Int) (x6 : Int) (x7 : Int) : Int :=
  bif ok_rLine (IntKind.wrap IntKind.i64 x1) (IntKind.wrap IntKind.i64 x2) (IntKind.wrap IntKind.i64 x3) (IntKind.wrap IntKind.i64 x4) then (bif r_rLine_8 (IntKind.wrap IntKind.i64 x1) (IntKind.wrap IntKind.i64 x2) (IntKind.wrap IntKind.i64 x3) (IntKind.wrap IntKind.i64 x4) != (0 : Int) then ((0 : Int))
  else bif !(r_rLine_0 (IntKind.wrap IntKind.i64 x1) (IntKind.wrap IntKind.i64 x2) (IntKind.wrap IntKind.i64 x3) (IntKind.wrap IntKind.i64 x4) == x0 && (r_rLine_1 (IntKind.wrap IntKind.i64 x1) (IntKind.wrap IntKind.i64 x2) (IntKind.wrap IntKind.i64 x3) (IntKind.wrap IntKind.i64 x4) == x1 && (r_rLine_2 (IntKind.wrap IntKind.i64 x1) (IntKind.wrap IntKind.i64 x2) (IntKind.wrap IntKind.i64 x3) (IntKind.wrap IntKind.i64 x4) == x2 && (r_rLine_3 (IntKind.wrap IntKind.i64 x1) (IntKind.wrap IntKind.i64 x2) (IntKind.wrap IntKind.i64 x3) (IntKind.wrap IntKind.i64 x4) == x3 && (r_rLine_4 (IntKind.wrap IntKind.i64 x1) (IntKind.wrap IntKind.i64 x2) (IntKind.wrap IntKind.i64 x3) (IntKind.wrap IntKind.i64 x4) == x4 && (r_rLine_5 (IntKind.wrap IntKind.i64 x1) (IntKind.wrap IntKind.i64 x2) (IntKind.wrap IntKind.i64 x3) (IntKind.wrap IntKind.i64 x4) == x5 && (r_rLine_6 (IntKind.wrap IntKind.i64 x1) (IntKind.wrap IntKind.i64 x2) (IntKind.wrap IntKind.i64 x3) (IntKind.wrap IntKind.i64 x4) == x6 && (r_rLine_7 (IntKind.wrap IntKind.i64 x1) (IntKind.wrap IntKind.i64 x2) (IntKind.wrap IntKind.i64 x3) (IntKind.wrap IntKind.i64 x4) == x7 && true)))))))) then ((0 : Int))
  else IntKind.wrap IntKind.i64 x4)
  else 0
def r_rRead_4 (x0 : Int) (x1 : Int) (x2 : Int) (x3 : Int) (x4 : Int) (x5 : Int) (x6 : Int) (x7 : Int) : Bool :=
  bif ok_rLine (IntKind.wrap IntKind.i64 x1) (IntKind.wrap IntKind.i64 x2) (IntKind.wrap IntKind.i64 x3) (IntKind.wrap IntKind.i64 x4) then (bif r_rLine_8 (IntKind.wrap IntKind.i64 x1) (IntKind.wrap IntKind.i64 x2) (IntKind.wrap IntKind.i64 x3) (IntKind.wrap IntKind.i64 x4) != (0 : Int) then (false)
  else bif !(r_rLine_0 (IntKind.wrap IntKind.i64 x1) (IntKind.wrap IntKind.i64 x2) (IntKind.wrap IntKind.i64 x3) (IntKind.wrap IntKind.i64 x4) == x0 && (r_rLine_1 (IntKind.wrap IntKind.i64 x1) (IntKind.wrap IntKind.i64 x2) (IntKind.wrap IntKind.i64 x3) (IntKind.wrap IntKind.i64 x4) == x1 && (r_rLine_2 (IntKind.wrap IntKind.i64 x1) (IntKind.wrap IntKind.i64 x2) (IntKind.wrap IntKind.i64 x3) (IntKind.wrap IntKind.i64 x4) == x2 && (r_rLine_3 (IntKind.wrap IntKind.i64 x1) (IntKind.wrap IntKind.i64 x2) (IntKind.wrap IntKind.i64 x3) (IntKind.wrap IntKind.i64 x4) == x3 && (r_rLine_4 (IntKind.wrap IntKind.i64 x1) (IntKind.wrap IntKind.i64 x2) (IntKind.wrap IntKind.i64 x3) (IntKind.wrap IntKind.i64 x4) == x4 && (r_rLine_5 (IntKind.wrap IntKind.i64 x1) (IntKind.wrap IntKind.i64 x2) (IntKind.wrap IntKind.i64 x3) (IntKind.wrap IntKind.i64 x4) == x5 && (r_rLine_6 (IntKind.wrap IntKind.i64 x1) (IntKind.wrap IntKind.i64 x2) (IntKind.wrap IntKind.i64 x3) (IntKind.wrap IntKind.i64 x4) == x6 && (r_rLine_7 (IntKind.wrap IntKind.i64 x1) (IntKind.wrap IntKind.i64 x2) (IntKind.wrap IntKind.i64 x3) (IntKind.wrap IntKind.i64 x4) == x7 && true)))))))) then (false)
  else true)
  else false
def ok_rRead (x0 : Int) (x1 : Int) (x2 : Int) (x3 : Int) (x4 : Int) (x5 : Int) (x6 : Int) (x7 : Int) : Bool :=
  bif ok_rLine (IntKind.wrap IntKind.i64 x1) (IntKind.wrap IntKind.i64 x2) (IntKind.wrap IntKind.i64 x3) (IntKind.wrap IntKind.i64 x4) then (bif r_rLine_8 (IntKind.wrap IntKind.i64 x1) (IntKind.wrap IntKind.i64 x2) (IntKind.wrap IntKind.i64 x3) (IntKind.wrap IntKind.i64 x4) != (0 : Int) then (true)
  else bif !(r_rLine_0 (IntKind.wrap IntKind.i64 x1) (IntKind.wrap IntKind.i64 x2) (IntKind.wrap IntKind.i64 x3) (IntKind.wrap IntKind.i64 x4) == x0 && (r_rLine_1 (IntKind.wrap IntKind.i64 x1) (IntKind.wrap IntKind.i64 x2) (IntKind.wrap IntKind.i64 x3) (IntKind.wrap IntKind.i64 x4) == x1 && (r_rLine_2 (IntKind.wrap IntKind.i64 x1) (IntKind.wrap IntKind.i64 x2) (IntKind.wrap IntKind.i64 x3) (IntKind.wrap IntKind.i64 x4) == x2 && (r_rLine_3 (IntKind.wrap IntKind.i64 x1) (IntKind.wrap IntKind.i64 x2) (IntKind.wrap IntKind.i64 x3) (IntKind.wrap IntKind.i64 x4) == x3 && (r_rLine_4 (IntKind.wrap IntKind.i64 x1) (IntKind.wrap IntKind.i64 x2) (IntKind.wrap IntKind.i64 x3) (IntKind.wrap IntKind.i64 x4) == x4 && (r_rLine_5 (IntKind.wrap IntKind.i64 x1) (IntKind.wrap IntKind.i64 x2) (IntKind.wrap IntKind.i64 x3) (IntKind.wrap IntKind.i64 x4) == x5 && (r_rLine_6 (IntKind.wrap IntKind.i64 x1) (IntKind.wrap IntKind.i64 x2) (IntKind.wrap IntKind.i64 x3) (IntKind.wrap IntKind.i64 x4) == x6 && (r_rLine_7 (IntKind.wrap IntKind.i64 x1) (IntKind.wrap IntKind.i64 x2) (IntKind.wrap IntKind.i64 x3) (IntKind.wrap IntKind.i64 x4) == x7 && true)))))))) then (true)
  else true)
  else false
def F_rRead : List At → Tr (List At) := fun l => .br 0 (ok_rRead (aI l 0) (aI l 1) (aI l 2) (aI l 3) (aI l 4) (aI l 5) (aI l 6) (aI l 7)) (.ok [.i (r_rRead_0 (aI l 0) (aI l 1) (aI l 2) (aI l 3) (aI l 4) (aI l 5) (aI l 6) (aI l 7)), .i (r_rRead_1 (aI l 0) (aI l 1) (aI l 2) (aI l 3) (aI l 4) (aI l 5) (aI l 6) (aI l 7)), .i (r_rRead_2 (aI l 0) (aI l 1) (aI l 2) (aI l 3) (aI l 4) (aI l 5) (aI l 6) (aI l 7)), .i (r_rRead_3 (aI l 0) (aI l 1) (aI l 2) (aI l 3) (aI l 4) (aI l 5) (aI l 6) (aI l 7)), .b (r_rRead_4 (aI l 0) (aI l 1) (aI l 2) (aI l 3) (aI l 4) (aI l 5) (aI l 6) (aI l 7))]) .no
theorem s_rRead : SpecF Try.prog 14 (.pure (locP ish_rRead osh_rRead F_rRead)) :=
  spec_locP (sy := y_rRead) (fuel := 100) (Lp := noLoops) o_sRead mixed ⟨Try.func14, by kernel_rfl, by kernel_rfl⟩ ish_rRead osh_rRead rfl (noLoops_ok _) (hT_merged [.i, .i, .i, .i, .b] e_rRead (fun l => by kernel_rfl) (fun l => by kernel_rfl))
def Γ_rRead : Specs := upd Γ_sRead 14 (.pure (locP ish_rRead osh_rRead F_rRead))
theorem o_rRead : SpecOK Try.prog Γ_rRead := SpecOK.upd o_sRead s_rRead

/-! ### sBest -/

def ish_sBest : FSh := ⟨[.v true [.k (.n .u64), .k (.n .u64), .k (.n .u64), .k (.n .u64), .k (.n .u64), .k (.n .u64), .k (.n .u64), .k (.n .u64)], .v true [.k (.n .u64), .k (.n .u64), .k (.n .u64), .k (.n .u64), .k (.n .u64), .k (.n .u64), .k (.n .u64), .k (.n .u64)]], []⟩
def osh_sBest : FSh := ⟨[.tup [(true, [.k (.n .i64), .k (.n .i64), .k (.n .i64), .k (.n .i64)]), (false, [.k (.n .i64)]), (false, [.k .b])]], []⟩
def T_sBest (x0 : Int) (x1 : Int) (x2 : Int) (x3 : Int) (x4 : Int) (x5 : Int) (x6 : Int) (x7 : Int) (x8 : Int) (x9 : Int) (x10 : Int) (x11 : Int) (x12 : Int) (x13 : Int) (x14 : Int) (x15 : Int) : Tr (List At) :=
 .br 0 (ok_sRead x0 x1 x2 x3 x4 x5 x6 x7)
 (.br 24 (r_sRead_4 x0 x1 x2 x3 x4 x5 x6 x7)
 (.br 34 (true)
 (.br 0 (ok_sRead x8 x9 x10 x11 x12 x13 x14 x15)
 (.br 24 (r_sRead_4 x8 x9 x10 x11 x12 x13 x14 x15)
 (.br 34 (decide (r_sRead_0 x8 x9 x10 x11 x12 x13 x14 x15 > r_sRead_0 x0 x1 x2 x3 x4 x5 x6 x7))
 (.ok [(.i (r_sRead_0 x8 x9 x10 x11 x12 x13 x14 x15)), (.i (r_sRead_1 x8 x9 x10 x11 x12 x13 x14 x15)), (.i (r_sRead_2 x8 x9 x10 x11 x12 x13 x14 x15)), (.i (r_sRead_3 x8 x9 x10 x11 x12 x13 x14 x15)), (.i ((1 : Int))), (.b (true))])
 (.ok [(.i (r_sRead_0 x0 x1 x2 x3 x4 x5 x6 x7)), (.i (r_sRead_1 x0 x1 x2 x3 x4 x5 x6 x7)), (.i (r_sRead_2 x0 x1 x2 x3 x4 x5 x6 x7)), (.i (r_sRead_3 x0 x1 x2 x3 x4 x5 x6 x7)), (.i ((0 : Int))), (.b (true))]))
 (.ok [(.i (r_sRead_0 x0 x1 x2 x3 x4 x5 x6 x7)), (.i (r_sRead_1 x0 x1 x2 x3 x4 x5 x6 x7)), (.i (r_sRead_2 x0 x1 x2 x3 x4 x5 x6 x7)), (.i (r_sRead_3 x0 x1 x2 x3 x4 x5 x6 x7)), (.i ((0 : Int))), (.b (true))]))
 (.no))
 (.br 0 (ok_sRead x8 x9 x10 x11 x12 x13 x14 x15)
 (.br 24 (r_sRead_4 x8 x9 x10 x11 x12 x13 x14 x15)
 (.br 34 (true)
 (.ok [(.i (r_sRead_0 x8 x9 x10 x11 x12 x13 x14 x15)), (.i (r_sRead_1 x8 x9 x10 x11 x12 x13 x14 x15)), (.i (r_sRead_2 x8 x9 x10 x11 x12 x13 x14 x15)), (.i (r_sRead_3 x8 x9 x10 x11 x12 x13 x14 x15)), (.i ((1 : Int))), (.b (true))])
 (.ok [(.i ((0 : Int))), (.i ((0 : Int))), (.i ((0 : Int))), (.i ((0 : Int))), (.i ((0 : Int))), (.b (false))]))
 (.ok [(.i ((0 : Int))), (.i ((0 : Int))), (.i ((0 : Int))), (.i ((0 : Int))), (.i ((0 : Int))), (.b (false))]))
 (.no)))
 (.br 0 (ok_sRead x8 x9 x10 x11 x12 x13 x14 x15)
 (.br 24 (r_sRead_4 x8 x9 x10 x11 x12 x13 x14 x15)
 (.br 34 (true)
 (.ok [(.i (r_sRead_0 x8 x9 x10 x11 x12 x13 x14 x15)), (.i (r_sRead_1 x8 x9 x10 x11 x12 x13 x14 x15)), (.i (r_sRead_2 x8 x9 x10 x11 x12 x13 x14 x15)), (.i (r_sRead_3 x8 x9 x10 x11 x12 x13 x14 x15)), (.i ((1 : Int))), (.b (true))])
 (.ok [(.i ((0 : Int))), (.i ((0 : Int))), (.i ((0 : Int))), (.i ((0 : Int))), (.i ((0 : Int))), (.b (false))]))
 (.ok [(.i ((0 : Int))), (.i ((0 : Int))), (.i ((0 : Int))), (.i ((0 : Int))), (.i ((0 : Int))), (.b (false))]))
 (.no)))
 (.no)
def y_sBest : Nat → Option Nat := syOf3 [24, 34] [] []
def TL_sBest (l : List At) : Tr (List At) := T_sBest (aI l 0) (aI l 1) (aI l 2) (aI l 3) (aI l 4) (aI l 5) (aI l 6) (aI l 7) (aI l 8) (aI l 9) (aI l 10) (aI l 11) (aI l 12) (aI l 13) (aI l 14) (aI l 15)
theorem e_sBest (l : List At) : (call Try.prog Γ_rRead y_sBest noLoops 100 Try.f15 (mkV ish_sBest l) (mkH ish_sBest l)).bind (leafO 0 osh_sBest) = TL_sBest l := by kernel_rfl
def r_sBest_0 (x0 : Int) (x1 : Int) (x2 : Int) (x3 : Int) (x4 : Int) (x5 : Int) (x6 : Int) (x7 : Int) (x8 : Int) (x9 : Int) (x10 : Int) (x11 : Int) (x12 : Int) (x13 : Int) (x14 : Int) (x15 : Int) : Int :=
  bif ok_sRead x0 x1 x2 x3 x4 x5 x6 x7 then (bif r_sRead_4 x0 x1 x2 x3 x4 x5 x6 x7 then (bif true then (bif ok_sRead x8 x9 x10 x11 x12 x13 x14 x15 then (bif r_sRead_4 x8 x9 x10 x11 x12 x13 x14 x15 then (bif decide (r_sRead_0 x8 x9 x10 x11 x12 x13 x14 x15 > r_sRead_0 x0 x1 x2 x3 x4 x5 x6 x7) then (r_sRead_0 x8 x9 x10 x11 x12 x13 x14 x15)
  else r_sRead_0 x0 x1 x2 x3 x4 x5 x6 x7)
  else r_sRead_0 x0 x1 x2 x3 x4 x5 x6 x7)
  else 0)
  else bif ok_sRead x8 x9 x10 x11 x12 x13 x14 x15 then (bif r_sRead_4 x8 x9 x10 x11 x12 x13 x14 x15 then (bif true then (r_sRead_0 x8 x9 x10 x11 x12 x13 x14 x15)
  else (0 : Int))
  else (0 : Int))
  else 0)
  else bif ok_sRead x8 x9 x10 x11 x12 x13 x14 x15 then (bif r_sRead_4 x8 x9 x10 x11 x12 x13 x14 x15 then (bif true then (r_sRead_0 x8 x9 x10 x11 x12 x13 x14 x15)
  else (0 : Int))
  else (0 : Int))
  else 0)
  else 0
def r_sBest_1 (x0 : Int) (x1 : Int) (x2 : Int) (x3 : Int) (x4 : Int) (x5 : Int) (x6 : Int) (x7 : Int) (x8 : Int) (x9 : Int) (x10 : Int) (x11 : Int) (x12 : Int) (x13 : Int) (x14 : Int) (x15 : Int) : Int :=
  bif ok_sRead x0 x1 x2 x3 x4 x5 x6 x7 then (bif r_sRead_4 x0 x1 x2 x3 x4 x5 x6 x7 then (bif true then (bif ok_sRead x8 x9 x10 x11 x12 x13 x14 x15 then (bif r_sRead_4 x8 x9 x10 x11 x12 x13 x14 x15 then (bif decide (r_sRead_0 x8 x9 x10 x11 x12 x13 x14 x15 > r_sRead_0 x0 x1 x2 x3 x4 x5 x6 x7) then (r_sRead_1 x8 x9 x10 x11 x12 x13 x14 x15)
  else r_sRead_1 x0 x1 x2 x3 x4 x5 x6 x7)
  else r_sRead_1 x0 x1 x2 x3 x4 x5 x6 x7)
  else 0)
  else bif ok_sRead x8 x9 x10 x11 x12 x13 x14 x15 then (bif r_sRead_4 x8 x9 x10 x11 x12 x13 x14 x15 then (bif true then (r_sRead_1 x8 x9 x10 x11 x12 x13 x14 x15)
  else (0 : Int))
  else (0 : Int))
  else 0)
  else bif ok_sRead x8 x9 x10 x11 x12 x13 x14 x15 then (bif r_sRead_4 x8 x9 x10 x11 x12 x13 x14 x15 then (bif true then (r_sRead_1 x8 x9 x10 x11 x12 x13 x14 x15)
  else (0 : Int))
  else (0 : Int))
  else 0)
  else 0
def r_sBest_2 (x0 : Int) (x1 : Int) (x2 : Int) (x3 : Int) (x4 : Int) (x5 : Int) (x6 : Int) (x7 : Int) (x8 : Int) (x9 : Int) (x10 : Int) (x11 : Int) (x12 : Int) (x13 : Int) (x14 : Int) (x15 : Int) : Int :=
  bif ok_sRead x0 x1 x2 x3 x4 x5 x6 x7 then (bif r_sRead_4 x0 x1 x2 x3 x4 x5 x6 x7 then (bif true then (bif ok_sRead x8 x9 x10 x11 x12 x13 x14 x15 then (bif r_sRead_4 x8 x9 x10 x11 x12 x13 x14 x15 then (bif decide (r_sRead_0 x8 x9 x10 x11 x12 x13 x14 x15 > r_sRead_0 x0 x1 x2 x3 x4 x5 x6 x7) then (r_sRead_2 x8 x9 x10 x11 x12 x13 x14 x15)
  else r_sRead_2 x0 x1 x2 x3 x4 x5 x6 x7)
  else r_sRead_2 x0 x1 x2 x3 x4 x5 x6 x7)
  else 0)
  else bif ok_sRead x8 x9 x10 x11 x12 x13 x14 x15 then (bif r_sRead_4 x8 x9 x10 x11 x12 x13 x14 x15 then (bif true then (r_sRead_2 x8 x9 x10 x11 x12 x13 x14 x15)
  else (0 : Int))
  else (0 : Int))
  else 0)
  else bif ok_sRead x8 x9 x10 x11 x12 x13 x14 x15 then (bif r_sRead_4 x8 x9 x10 x11 x12 x13 x14 x15 then (bif true then (r_sRead_2 x8 x9 x10 x11 x12 x13 x14 x15)
  else (0 : Int))
  else (0 : Int))
  else 0)
  else 0
def r_sBest_3 (x0 : Int) (x1 : Int) (x2 : Int) (x3 : Int) (x4 : Int) (x5 : Int) (x6 : Int) (x7 : Int) (x8 : Int) (x9 : Int) (x10 : Int) (x11 : Int) (x12 : Int) (x13 : Int) (x14 : Int) (x15 : Int) : Int :=
  bif ok_sRead x0 x1 x2 x3 x4 x5 x6 x7 then (bif r_sRead_4 x0 x1 x2 x3 x4 x5 x6 x7 then (bif true then (bif ok_sRead x8 x9 x10 x11 x12 x13 x14 x15 then (bif r_sRead_4 x8 x9 x10 x11 x12 x13 x14 x15 then (bif decide (r_sRead_0 x8 x9 x10 x11 x12 x13 x14 x15 > r_sRead_0 x0 x1 x2 x3 x4 x5 x6 x7) then (r_sRead_3 x8 x9 x10 x11 x12 x13 x14 x15)
  else r_sRead_3 x0 x1 x2 x3 x4 x5 x6 x7)
  else r_sRead_3 x0 x1 x2 x3 x4 x5 x6 x7)
  else 0)
  else bif ok_sRead x8 x9 x10 x11 x12 x13 x14 x15 then (bif r_sRead_4 x8 x9 x10 x11 x12 x13 x14 x15 then (bif true then (r_sRead_3 x8 x9 x10 x11 x12 x13 x14 x15)
  else (0 : Int))
  else (0 : Int))
  else 0)
  else bif ok_sRead x8 x9 x10 x11 x12 x13 x14 x15 then (bif r_sRead_4 x8 x9 x10 x11 x12 x13 x14 x15 then (bif true then (r_sRead_3 x8 x9 x10 x11 x12 x13 x14 x15)
  else (0 : Int))
  else (0 : Int))
  else 0)
  else 0
def r_sBest_4 (x0 : Int) (x1 : Int) (x2 : Int) (x3 : Int) (x4 : Int) (x5 : Int) (x6 : Int) (x7 : Int) (x8 : Int) (x9 : Int) (x10 : Int) (x11 : Int) (x12 : Int) (x13 : Int) (x14 : Int) (x15 : Int) : Int :=
  bif ok_sRead x0 x1 x2 x3 x4 x5 x6 x7 then (bif r_sRead_4 x0 x1 x2 x3 x4 x5 x6 x7 then (bif true then (bif ok_sRead x8 x9 x10 x11 x12 x13 x14 x15 then (bif r_sRead_4 x8 x9 x10 x11 x12 x13 x14 x15 then (bif decide (r_sRead_0 x8 x9 x10 x11 x12 x13 x14 x15 > r_sRead_0 x0 x1 x2 x3 x4 x5 x6 x7) then ((1 : Int))
  else (0 : Int))
  else (0 : Int))
  else 0)
  else bif ok_sRead x8 x9 x10 x11 x12 x13 x14 x15 then (bif r_sRead_4 x8 x9 x10 x11 x12 x13 x14 x15 then (bif true then ((1 : Int))
  else (0 : Int))
  else (0 : Int))
  else 0)
  else bif ok_sRead x8 x9 x10 x11 x12 x13 x14 x15 then (bif r_sRead_4 x8 x9 x10 x11 x12 x13 x14 x15 then (bif true then ((1 : Int))
  else (0 : Int))
  else (0 : Int))
  else 0)
  else 0
def r_sBest_5 (x0 : Int) (x1 : Int) (x2 : Int) (x3 : Int) (x4 : Int) (x5 : Int) (x6 : Int) (x7 : Int) (x8 : Int) (x9 : Int) (x10 : Int) (x11 : Int) (x12 : Int) (x13 : Int) (x14 : Int) (x15 : Int) : Bool :=
  bif ok_sRead x0 x1 x2 x3 x4 x5 x6 x7 then (bif r_sRead_4 x0 x1 x2 x3 x4 x5 x6 x7 then (bif true then (bif ok_sRead x8 x9 x10 x11 x12 x13 x14 x15 then (bif r_sRead_4 x8 x9 x10 x11 x12 x13 x14 x15 then (bif decide (r_sRead_0 x8 x9 x10 x11 x12 x13 x14 x15 > r_sRead_0 x0 x1 x2 x3 x4 x5 x6 x7) then (true)
  else true)
  else true)
  else false)
  else bif ok_sRead x8 x9 x10 x11 x12 x13 x14 x15 then (bif r_sRead_4 x8 x9 x10 x11 x12 x13 x14 x15 then (bif true then (true)
  else false)
  else false)
  else false)
  else bif ok_sRead x8 x9 x10 x11 x12 x13 x14 x15 then (bif r_sRead_4 x8 x9 x10 x11 x12 x13 x14 x15 then (bif true then (true)
  else false)
  else false)
  else false)
  else false
def ok_sBest (x0 : Int) (x1 : Int) (x2 : Int) (x3 : Int) (x4 : Int) (x5 : Int) (x6 : Int) (x7 : Int) (x8 : Int) (x9 : Int) (x10 : Int) (x11 : Int) (x12 : Int) (x13 : Int) (x14 : Int) (x15 : Int) : Bool :=
  bif ok_sRead x0 x1 x2 x3 x4 x5 x6 x7 then (bif r_sRead_4 x0 x1 x2 x3 x4 x5 x6 x7 then (bif true then (bif ok_sRead x8 x9 x10 x11 x12 x13 x14 x15 then (bif r_sRead_4 x8 x9 x10 x11 x12 x13 x14 x15 then (bif decide (r_sRead_0 x8 x9 x10 x11 x12 x13 x14 x15 > r_sRead_0 x0 x1 x2 x3 x4 x5 x6 x7) then (true)
  else true)
  else true)
  else false)
  else bif ok_sRead x8 x9 x10 x11 x12 x13 x14 x15 then (bif r_sRead_4 x8 x9 x10 x11 x12 x13 x14 x15 then (bif true then (true)
  else true)
  else true)
  else false)
  else bif ok_sRead x8 x9 x10 x11 x12 x13 x14 x15 then (bif r_sRead_4 x8 x9 x10 x11 x12 x13 x14 x15 then (bif true then (true)
  else true)
  else true)
  else false)
  else false
def F_sBest : List At → Tr (List At) := fun l => .br 0 (ok_sBest (aI l 0) (aI l 1) (aI l 2) (aI l 3) (aI l 4) (aI l 5) (aI l 6) (aI l 7) (aI l 8) (aI l 9) (aI l 10) (aI l 11) (aI l 12) (aI l 13) (aI l 14) (aI l 15)) (.ok [.i (r_sBest_0 (aI l 0) (aI l 1) (aI l 2) (aI l 3) (aI l 4) (aI l 5) (aI l 6) (aI l 7) (aI l 8) (aI l 9) (aI l 10) (aI l 11) (aI l 12) (aI l 13) (aI l 14) (aI l 15)), .i (r_sBest_1 (aI l 0) (aI l 1) (aI l 2) (aI l 3) (aI l 4) (aI l 5) (aI l 6) (aI l 7) (aI l 8) (aI l 9) (aI l 10) (aI l 11) (aI l 12) (aI l 13) (aI l 14) (aI l 15)), .i (r_sBest_2 (aI l 0) (aI l 1) (aI l 2) (aI l 3) (aI l 4) (aI l 5) (aI l 6) (aI l 7) (aI l 8) (aI l 9) (aI l 10) (aI l 11) (aI l 12) (aI l 13) (aI l 14) (aI l 15)), .i (r_sBest_3 (aI l 0) (aI l 1) (aI l 2) (aI l 3) (aI l 4) (aI l 5) (aI l 6) (aI l 7) (aI l 8) (aI l 9) (aI l 10) (aI l 11) (aI l 12) (aI l 13) (aI l 14) (aI l 15)), .i (r_sBest_4 (aI l 0) (aI l 1) (aI l 2) (aI l 3) (aI l 4) (aI l 5) (aI l 6) (aI l 7) (aI l 8) (aI l 9) (aI l 10) (aI l 11) (aI l 12) (aI l 13) (aI l 14) (aI l 15)), .b (r_sBest_5 (aI l 0) (aI l 1) (aI l 2) (aI l 3) (aI l 4) (aI l 5) (aI l 6) (aI l 7) (aI l 8) (aI l 9) (aI l 10) (aI l 11) (aI l 12) (aI l 13) (aI l 14) (aI l 15))]) .no
theorem s_sBest : SpecF Try.prog 15 (.pure (locP ish_sBest osh_sBest F_sBest)) :=
  spec_locP (sy := y_sBest) (fuel := 100) (Lp := noLoops) o_rRead mixed ⟨Try.func15, by kernel_rfl, by kernel_rfl⟩ ish_sBest osh_sBest rfl (noLoops_ok _) (hT_merged [.i, .i, .i, .i, .i, .b] e_sBest (fun l => by kernel_rfl) (fun l => by kernel_rfl))
def Γ_sBest : Specs := upd Γ_rRead 15 (.pure (locP ish_sBest osh_sBest F_sBest))
theorem o_sBest : SpecOK Try.prog Γ_sBest := SpecOK.upd o_rRead s_sBest

/-! ### rBest -/

def ish_rBest : FSh := ⟨[.v true [.k (.n .u64), .k (.n .u64), .k (.n .u64), .k (.n .u64), .k (.n .u64), .k (.n .u64), .k (.n .u64), .k (.n .u64)], .v true [.k (.n .u64), .k (.n .u64), .k (.n .u64), .k (.n .u64), .k (.n .u64), .k (.n .u64), .k (.n .u64), .k (.n .u64)]], []⟩
def osh_rBest : FSh := ⟨[.tup [(true, [.k (.n .i64), .k (.n .i64), .k (.n .i64), .k (.n .i64)]), (false, [.k (.n .i64)]), (false, [.k .b])]], []⟩
def T_rBest (x0 : Int) (x1 : Int) (x2 : Int) (x3 : Int) (x4 : Int) (x5 : Int) (x6 : Int) (x7 : Int) (x8 : Int) (x9 : Int) (x10 : Int) (x11 : Int) (x12 : Int) (x13 : Int) (x14 : Int) (x15 : Int) : Tr (List At) :=
 .br 0 (ok_rRead x0 x1 x2 x3 x4 x5 x6 x7)
 (.br 0 (ok_rRead x8 x9 x10 x11 x12 x13 x14 x15)
 (.br 22 (r_rRead_4 x8 x9 x10 x11 x12 x13 x14 x15)
 (.br 25 (!r_rRead_4 x0 x1 x2 x3 x4 x5 x6 x7)
 (.ok [(.i (r_rRead_0 x8 x9 x10 x11 x12 x13 x14 x15)), (.i (r_rRead_1 x8 x9 x10 x11 x12 x13 x14 x15)), (.i (r_rRead_2 x8 x9 x10 x11 x12 x13 x14 x15)), (.i (r_rRead_3 x8 x9 x10 x11 x12 x13 x14 x15)), (.i ((1 : Int))), (.b (true))])
 (.br 32 (decide (r_rRead_0 x8 x9 x10 x11 x12 x13 x14 x15 > r_rRead_0 x0 x1 x2 x3 x4 x5 x6 x7))
 (.ok [(.i (r_rRead_0 x8 x9 x10 x11 x12 x13 x14 x15)), (.i (r_rRead_1 x8 x9 x10 x11 x12 x13 x14 x15)), (.i (r_rRead_2 x8 x9 x10 x11 x12 x13 x14 x15)), (.i (r_rRead_3 x8 x9 x10 x11 x12 x13 x14 x15)), (.i ((1 : Int))), (.b (true))])
 (.ok [(.i (r_rRead_0 x0 x1 x2 x3 x4 x5 x6 x7)), (.i (r_rRead_1 x0 x1 x2 x3 x4 x5 x6 x7)), (.i (r_rRead_2 x0 x1 x2 x3 x4 x5 x6 x7)), (.i (r_rRead_3 x0 x1 x2 x3 x4 x5 x6 x7)), (.i ((0 : Int))), (.b (r_rRead_4 x0 x1 x2 x3 x4 x5 x6 x7))])))
 (.ok [(.i (r_rRead_0 x0 x1 x2 x3 x4 x5 x6 x7)), (.i (r_rRead_1 x0 x1 x2 x3 x4 x5 x6 x7)), (.i (r_rRead_2 x0 x1 x2 x3 x4 x5 x6 x7)), (.i (r_rRead_3 x0 x1 x2 x3 x4 x5 x6 x7)), (.i ((0 : Int))), (.b (r_rRead_4 x0 x1 x2 x3 x4 x5 x6 x7))]))
 (.no))
 (.no)
def y_rBest : Nat → Option Nat := syOf3 [22, 25, 32] [] []
def TL_rBest (l : List At) : Tr (List At) := T_rBest (aI l 0) (aI l 1) (aI l 2) (aI l 3) (aI l 4) (aI l 5) (aI l 6) (aI l 7) (aI l 8) (aI l 9) (aI l 10) (aI l 11) (aI l 12) (aI l 13) (aI l 14) (aI l 15)
theorem e_rBest (l : List At) : (call Try.prog Γ_sBest y_rBest noLoops 100 Try.f16 (mkV ish_rBest l) (mkH ish_rBest l)).bind (leafO 0 osh_rBest) = TL_rBest l := by kernel_rfl
def r_rBest_0 (x0 : Int) (x1 : Int) (x2 : Int) (x3 : Int) (x4 : Int) (x5 : Int) (x6 : Int) (x7 : Int) (x8 : Int) (x9 : Int) (x10 : Int) (x11 : Int) (x12 : Int) (x13 : Int) (x14 : Int) (x15 : Int) : Int :=
  bif ok_rRead x0 x1 x2 x3 x4 x5 x6 x7 then (bif ok_rRead x8 x9 x10 x11 x12 x13 x14 x15 then (bif r_rRead_4 x8 x9 x10 x11 x12 x13 x14 x15 then (bif !r_rRead_4 x0 x1 x2 x3 x4 x5 x6 x7 then (r_rRead_0 x8 x9 x10 x11 x12 x13 x14 x15)
  else bif decide (r_rRead_0 x8 x9 x10 x11 x12 x13 x14 x15 > r_rRead_0 x0 x1 x2 x3 x4 x5 x6 x7) then (r_rRead_0 x8 x9 x10 x11 x12 x13 x14 x15)
  else r_rRead_0 x0 x1 x2 x3 x4 x5 x6 x7)
  else r_rRead_0 x0 x1 x2 x3 x4 x5 x6 x7)
  else 0)
  else 0
def r_rBest_1 (x0 : Int) (x1 : Int) (x2 : Int) (x3 : Int) (x4 : Int) (x5 : Int) (x6 : Int) (x7 : Int) (x8 : Int) (x9 : Int) (x10 : Int) (x11 : Int) (x12 : Int) (x13 : Int) (x14 : Int) (x15 : Int) : Int :=
  bif ok_rRead x0 x1 x2 x3 x4 x5 x6 x7 then (bif ok_rRead x8 x9 x10 x11 x12 x13 x14 x15 then (bif r_rRead_4 x8 x9 x10 x11 x12 x13 x14 x15 then (bif !r_rRead_4 x0 x1 x2 x3 x4 x5 x6 x7 then (r_rRead_1 x8 x9 x10 x11 x12 x13 x14 x15)
  else bif decide (r_rRead_0 x8 x9 x10 x11 x12 x13 x14 x15 > r_rRead_0 x0 x1 x2 x3 x4 x5 x6 x7) then (r_rRead_1 x8 x9 x10 x11 x12 x13 x14 x15)
  else r_rRead_1 x0 x1 x2 x3 x4 x5 x6 x7)
  else r_rRead_1 x0 x1 x2 x3 x4 x5 x6 x7)
  else 0)
  else 0
def r_rBest_2 (x0 : Int) (x1 : Int) (x2 : Int) (x3 : Int) (x4 : Int) (x5 : Int) (x6 : Int) (x7 : Int) (x8 : Int) (x9 : Int) (x10 : Int) (x11 : Int) (x12 : Int) (x13 : Int) (x14 : Int) (x15 : Int) : Int :=
  bif ok_rRead x0 x1 x2 x3 x4 x5 x6 x7 then (bif ok_rRead x8 x9 x10 x11 x12 x13 x14 x15 then (bif r_rRead_4 x8 x9 x10 x11 x12 x13 x14 x15 then (bif !r_rRead_4 x0 x1 x2 x3 x4 x5 x6 x7 then (r_rRead_2 x8 x9 x10 x11 x12 x13 x14 x15)
  else bif decide (r_rRead_0 x8 x9 x10 x11 x12 x13 x14 x15 > r_rRead_0 x0 x1 x2 x3 x4 x5 x6 x7) then (r_rRead_2 x8 x9 x10 x11 x12 x13 x14 x15)
  else r_rRead_2 x0 x1 x2 x3 x4 x5 x6 x7)
  else r_rRead_2 x0 x1 x2 x3 x4 x5 x6 x7)
  else 0)
  else 0
def r_rBest_3 (x0 : Int) (x1 : Int) (x2 : Int) (x3 : Int) (x4 : Int) (x5 : Int) (x6 : Int) (x7 : Int) (x8 : Int) (x9 : Int) (x10 : Int) (x11 : Int) (x12 : Int) (x13 : Int) (x14 : Int) (x15 : Int) : Int :=
  bif ok_rRead x0 x1 x2 x3 x4 x5 x6 x7 then (bif ok_rRead x8 x9 x10 x11 x12 x13 x14 x15 then (bif r_rRead_4 x8 x9 x10 x11 x12 x13 x14 x15 then (bif !r_rRead_4 x0 x1 x2 x3 x4 x5 x6 x7 then (r_rRead_3 x8 x9 x10 x11 x12 x13 x14 x15)
  else bif decide (r_rRead_0 x8 x9 x10 x11 x12 x13 x14 x15 > r_rRead_0 x0 x1 x2 x3 x4 x5 x6 x7) then (r_rRead_3 x8 x9 x10 x11 x12 x13 x14 x15)
  else r_rRead_3 x0 x1 x2 x3 x4 x5 x6 x7)
  else r_rRead_3 x0 x1 x2 x3 x4 x5 x6 x7)
  else 0)
  else 0
def r_rBest_4 (x0 : Int) (x1 : Int) (x2 : Int) (x3 : Int) (x4 : Int) (x5 : Int) (x6 : Int) (x7 : Int) (x8 : Int) (x9 : Int) (x10 : Int) (x11 : Int) (x12 : Int) (x13 : Int) (x14 : Int) (x15 : Int) : Int :=
  bif ok_rRead x0 x1 x2 x3 x4 x5 x6 x7 then (bif ok_rRead x8 x9 x10 x11 x12 x13 x14 x15 then (bif r_rRead_4 x8 x9 x10 x11 x12 x13 x14 x15 then (bif !r_rRead_4 x0 x1 x2 x3 x4 x5 x6 x7 then ((1 : Int))
  else bif decide (r_rRead_0 x8 x9 x10 x11 x12 x13 x14 x15 > r_rRead_0 x0 x1 x2 x3 x4 x5 x6 x7) then ((1 : Int))
  else (0 : Int))
  else (0 : Int))
  else 0)
  else 0
def r_rBest_5 (x0 : Int) (x1 : Int) (x2 : Int) (x3 : Int) (x4 : Int) (x5 : Int) (x6 : Int) (x7 : Int) (x8 : Int) (x9 : Int) (x10 : Int) (x11 : Int) (x12 : Int) (x13 : Int) (x14 : Int) (x15 : Int) : Bool :=
  bif ok_rRead x0 x1 x2 x3 x4 x5 x6 x7 then (bif ok_rRead x8 x9 x10 x11 x12 x13 x14 x15 then (bif r_rRead_4 x8 x9 x10 x11 x12 x13 x14 x15 then (bif !r_rRead_4 x0 x1 x2 x3 x4 x5 x6 x7 then (true)
  else bif decide (r_rRead_0 x8 x9 x10 x11 x12 x13 x14 x15 > r_rRead_0 x0 x1 x2 x3 x4 x5 x6 x7) then (true)
  else r_rRead_4 x0 x1 x2 x3 x4 x5 x6 x7)
  else r_rRead_4 x0 x1 x2 x3 x4 x5 x6 x7)
  else false)
  else false
def ok_rBest (x0 : Int) (x1 : Int) (x2 : Int) (x3 : Int) (x4 : Int) (x5 : Int) (x6 : Int) (x7 : Int) (x8 : Int) (x9 : Int) (x10 : Int) (x11 : Int) (x12 : Int) (x13 : Int) (x14 : Int) (x15 : Int) : Bool :=
  bif ok_rRead x0 x1 x2 x3 x4 x5 x6 x7 then (bif ok_rRead x8 x9 x10 x11 x12 x13 x14 x15 then (bif r_rRead_4 x8 x9 x10 x11 x12 x13 x14 x15 then (bif !r_rRead_4 x0 x1 x2 x3 x4 x5 x6 x7 then (true)
  else bif decide (r_rRead_0 x8 x9 x10 x11 x12 x13 x14 x15 > r_rRead_0 x0 x1 x2 x3 x4 x5 x6 x7) then (true)
  else true)
  else true)
  else false)
  else false
def F_rBest : List At → Tr (List At) := fun l => .br 0 (ok_rBest (aI l 0) (aI l 1) (aI l 2) (aI l 3) (aI l 4) (aI l 5) (aI l 6) (aI l 7) (aI l 8) (aI l 9) (aI l 10) (aI l 11) (aI l 12) (aI l 13) (aI l 14) (aI l 15)) (.ok [.i (r_rBest_0 (aI l 0) (aI l 1) (aI l 2) (aI l 3) (aI l 4) (aI l 5) (aI l 6) (aI l 7) (aI l 8) (aI l 9) (aI l 10) (aI l 11) (aI l 12) (aI l 13) (aI l 14) (aI l 15)), .i (r_rBest_1 (aI l 0) (aI l 1) (aI l 2) (aI l 3) (aI l 4) (aI l 5) (aI l 6) (aI l 7) (aI l 8) (aI l 9) (aI l 10) (aI l 11) (aI l 12) (aI l 13) (aI l 14) (aI l 15)), .i (r_rBest_2 (aI l 0) (aI l 1) (aI l 2) (aI l 3) (aI l 4) (aI l 5) (aI l 6) (aI l 7) (aI l 8) (aI l 9) (aI l 10) (aI l 11) (aI l 12) (aI l 13) (aI l 14) (aI l 15)), .i (r_rBest_3 (aI l 0) (aI l 1) (aI l 2) (aI l 3) (aI l 4) (aI l 5) (aI l 6) (aI l 7) (aI l 8) (aI l 9) (aI l 10) (aI l 11) (aI l 12) (aI l 13) (aI l 14) (aI l 15)), .i (r_rBest_4 (aI l 0) (aI l 1) (aI l 2) (aI l 3) (aI l 4) (aI l 5) (aI l 6) (aI l 7) (aI l 8) (aI l 9) (aI l 10) (aI l 11) (aI l 12) (aI l 13) (aI l 14) (aI l 15)), .b (r_rBest_5 (aI l 0) (aI l 1) (aI l 2) (aI l 3) (aI l 4) (aI l 5) (aI l 6) (aI l 7) (aI l 8) (aI l 9) (aI l 10) (aI l 11) (aI l 12) (aI l 13) (aI l 14) (aI l 15))]) .no
theorem s_rBest : SpecF Try.prog 16 (.pure (locP ish_rBest osh_rBest F_rBest)) :=
  spec_locP (sy := y_rBest) (fuel := 100) (Lp := noLoops) o_sBest mixed ⟨Try.func16, by kernel_rfl, by kernel_rfl⟩ ish_rBest osh_rBest rfl (noLoops_ok _) (hT_merged [.i, .i, .i, .i, .i, .b] e_rBest (fun l => by kernel_rfl) (fun l => by kernel_rfl))
def Γ_rBest : Specs := upd Γ_sBest 16 (.pure (locP ish_rBest osh_rBest F_rBest))
theorem o_rBest : SpecOK Try.prog Γ_rBest := SpecOK.upd o_sBest s_rBest

/-! ### shown -/

def ish_shown : FSh := ⟨[], []⟩
def osh_shown : FSh := ⟨[.v false [.k .b]], []⟩
def T_shown  : Tr (List At) :=
 .br 0 (true)
 (.br 0 (true)
 (.br 0 (true)
 (.br 0 (true)
 (.br 0 (true)
 (.br 0 (true)
 (.br 0 (true)
 (.ok [(.b (true))])
 (.no))
 (.no))
 (.no))
 (.no))
 (.no))
 (.no))
 (.no)
def y_shown : Nat → Option Nat := syOf3 [] [] []
def TL_shown (l : List At) : Tr (List At) := T_shown 
theorem e_shown (l : List At) : (call Try.prog Γ_rBest y_shown noLoops 100 Try.f10 (mkV ish_shown l) (mkH ish_shown l)).bind (leafO 0 osh_shown) = TL_shown l := by kernel_rfl
def r_shown_0  : Bool :=
  bif true then (bif true then (bif true then (bif true then (bif true then (bif true then (bif true then (true)
  else false)
  else false)
  else false)
  else false)
  else false)
  else false)
  else false
def ok_shown  : Bool :=
  bif true then (bif true then (bif true then (bif true then (bif true then (bif true then (bif true then (true)
  else false)
  else false)
  else false)
  else false)
  else false)
  else false)
  else false
def F_shown : List At → Tr (List At) := fun l => .br 0 (ok_shown ) (.ok [.b (r_shown_0)]) .no
theorem s_shown : SpecF Try.prog 10 (.pure (locP ish_shown osh_shown F_shown)) :=
  spec_locP (sy := y_shown) (fuel := 100) (Lp := noLoops) o_rBest mixed ⟨Try.func10, by kernel_rfl, by kernel_rfl⟩ ish_shown osh_shown rfl (noLoops_ok _) (hT_merged [.b] e_shown (fun l => by kernel_rfl) (fun l => by kernel_rfl))
def Γ_shown : Specs := upd Γ_rBest 10 (.pure (locP ish_shown osh_shown F_shown))
theorem o_shown : SpecOK Try.prog Γ_shown := SpecOK.upd o_rBest s_shown

end Go.Proofs.Ytgmhggipaopoiaa.G

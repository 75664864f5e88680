/-
  What functions of the seat compute, printed by a program from the explorer.
-/
import Derived.Test.YtpllgemflpnioaaDyn
import Derived.KernelRfl
namespace Go.Proofs.Ytpllgemflpnioaa.G
open Go Go.AM Go.Proofs
/-! ### wIs_ -/

def ish_wIs_ : FSh := ⟨[.v false [.k (.n .i64)], .v false [.k (.n .i64)]], []⟩
def osh_wIs_ : FSh := ⟨[.v false [.k .b]], []⟩
def T_wIs_ (x0 : Int) (x1 : Int) : Tr (List At) :=
 .br 7 (decide (x0 ≥ (0 : Int)))
 (.br 11 (decide (x0 < (64 : Int)))
 (.br 15 (decide (x1 ≥ (1 : Int)))
 (.ok [(.b (decide (x1 ≤ IntKind.wrap IntKind.i64 ((64 : Int) - x0))))])
 (.ok [(.b (false))]))
 (.ok [(.b (false))]))
 (.ok [(.b (false))])
def y_wIs_ : Nat → Option Nat := (syOf3 [7, 11, 15] [] [])
def TL_wIs_ (l : List At) : Tr (List At) := T_wIs_ (aI l 0) (aI l 1)
theorem e_wIs_ (l : List At) : (call Try.prog Γ_dyn y_wIs_ noLoops 100 Try.f24 (mkV ish_wIs_ l) (mkH ish_wIs_ l)).bind (leafO 0 osh_wIs_) = TL_wIs_ l := by kernel_rfl
def r_wIs__0 (x0 : Int) (x1 : Int) : Bool :=
  bif decide (x0 ≥ (0 : Int)) then (bif decide (x0 < (64 : Int)) then (bif decide (x1 ≥ (1 : Int)) then (decide (x1 ≤ IntKind.wrap IntKind.i64 ((64 : Int) - x0)))
  else false)
  else false)
  else false
def F_wIs_ : List At → Tr (List At) := fun l => .ok [.b (r_wIs__0 (aI l 0) (aI l 1))]
theorem s_wIs_ : SpecF Try.prog 24 (.pure (locP ish_wIs_ osh_wIs_ F_wIs_)) :=
  spec_locP (sy := y_wIs_) (fuel := 100) (Lp := noLoops) o_dyn mixed ⟨Try.func24, by kernel_rfl, by kernel_rfl⟩ ish_wIs_ osh_wIs_ rfl (noLoops_ok _) (hT_merged [.b] e_wIs_ (fun l => by kernel_rfl) (fun l => by kernel_rfl))
def Γ_wIs_ : Specs := upd Γ_dyn 24 (.pure (locP ish_wIs_ osh_wIs_ F_wIs_))
theorem o_wIs_ : SpecOK Try.prog Γ_wIs_ := SpecOK.upd o_dyn s_wIs_

/-! ### wMask_ -/

def ish_wMask_ : FSh := ⟨[.v false [.k (.n .i64)]], []⟩
def osh_wMask_ : FSh := ⟨[.v false [.k (.n .u64)]], []⟩
def T_wMask_ (x0 : Int) : Tr (List At) :=
 .br 5 (decide ((0 : Int) ≤ IntKind.wrap IntKind.i64 ((64 : Int) - x0)))
 (.ok [(.i (Int.fdiv (18446744073709551615 : Int) ((2 : Int) ^ shiftN IntKind.u64 (IntKind.wrap IntKind.i64 ((64 : Int) - x0)))))])
 (.no)
def y_wMask_ : Nat → Option Nat := (syOf3 [5] [] [])
def TL_wMask_ (l : List At) : Tr (List At) := T_wMask_ (aI l 0)
theorem e_wMask_ (l : List At) : (call Try.prog Γ_wIs_ y_wMask_ noLoops 100 Try.f25 (mkV ish_wMask_ l) (mkH ish_wMask_ l)).bind (leafO 0 osh_wMask_) = TL_wMask_ l := by kernel_rfl
def r_wMask__0 (x0 : Int) : Int :=
  bif decide ((0 : Int) ≤ IntKind.wrap IntKind.i64 ((64 : Int) - x0)) then (Int.fdiv (18446744073709551615 : Int) ((2 : Int) ^ shiftN IntKind.u64 (IntKind.wrap IntKind.i64 ((64 : Int) - x0))))
  else 0
def ok_wMask_ (x0 : Int) : Bool :=
  bif decide ((0 : Int) ≤ IntKind.wrap IntKind.i64 ((64 : Int) - x0)) then (true)
  else false
def F_wMask_ : List At → Tr (List At) := fun l => .br 0 (ok_wMask_ (aI l 0)) (.ok [.i (r_wMask__0 (aI l 0))]) .no
theorem s_wMask_ : SpecF Try.prog 25 (.pure (locP ish_wMask_ osh_wMask_ F_wMask_)) :=
  spec_locP (sy := y_wMask_) (fuel := 100) (Lp := noLoops) o_wIs_ mixed ⟨Try.func25, by kernel_rfl, by kernel_rfl⟩ ish_wMask_ osh_wMask_ rfl (noLoops_ok _) (hT_merged [.i] e_wMask_ (fun l => by kernel_rfl) (fun l => by kernel_rfl))
def Γ_wMask_ : Specs := upd Γ_wIs_ 25 (.pure (locP ish_wMask_ osh_wMask_ F_wMask_))
theorem o_wMask_ : SpecOK Try.prog Γ_wMask_ := SpecOK.upd o_wIs_ s_wMask_

/-! ### wField_ -/

def ish_wField_ : FSh := ⟨[.v false [.k (.n .u64)], .v false [.k (.n .i64)], .v false [.k (.n .i64)]], []⟩
def osh_wField_ : FSh := ⟨[.v false [.k (.n .u64)]], []⟩
def T_wField_ (x0 : Int) (x1 : Int) (x2 : Int) : Tr (List At) :=
 .br 10 (!r_wIs__0 x1 x2)
 (.ok [(.i ((0 : Int)))])
 (.br 13 (decide ((0 : Int) ≤ x1))
 (.br 0 (ok_wMask_ x2)
 (.ok [(.i (bits BinOp.and IntKind.u64 (Int.fdiv x0 ((2 : Int) ^ shiftN IntKind.u64 x1)) (r_wMask__0 x2)))])
 (.no))
 (.no))
def y_wField_ : Nat → Option Nat := (syOf3 [10, 13] [] [])
def TL_wField_ (l : List At) : Tr (List At) := T_wField_ (aI l 0) (aI l 1) (aI l 2)
theorem e_wField_ (l : List At) : (call Try.prog Γ_wMask_ y_wField_ noLoops 100 Try.f19 (mkV ish_wField_ l) (mkH ish_wField_ l)).bind (leafO 0 osh_wField_) = TL_wField_ l := by kernel_rfl
def r_wField__0 (x0 : Int) (x1 : Int) (x2 : Int) : Int :=
  bif !r_wIs__0 x1 x2 then ((0 : Int))
  else bif decide ((0 : Int) ≤ x1) then (bif ok_wMask_ x2 then (bits BinOp.and IntKind.u64 (Int.fdiv x0 ((2 : Int) ^ shiftN IntKind.u64 x1)) (r_wMask__0 x2))
  else 0)
  else 0
def ok_wField_ (x0 : Int) (x1 : Int) (x2 : Int) : Bool :=
  bif !r_wIs__0 x1 x2 then (true)
  else bif decide ((0 : Int) ≤ x1) then (bif ok_wMask_ x2 then (true)
  else false)
  else false
def F_wField_ : List At → Tr (List At) := fun l => .br 0 (ok_wField_ (aI l 0) (aI l 1) (aI l 2)) (.ok [.i (r_wField__0 (aI l 0) (aI l 1) (aI l 2))]) .no
theorem s_wField_ : SpecF Try.prog 19 (.pure (locP ish_wField_ osh_wField_ F_wField_)) :=
  spec_locP (sy := y_wField_) (fuel := 100) (Lp := noLoops) o_wMask_ mixed ⟨Try.func19, by kernel_rfl, by kernel_rfl⟩ ish_wField_ osh_wField_ rfl (noLoops_ok _) (hT_merged [.i] e_wField_ (fun l => by kernel_rfl) (fun l => by kernel_rfl))
def Γ_wField_ : Specs := upd Γ_wMask_ 19 (.pure (locP ish_wField_ osh_wField_ F_wField_))
theorem o_wField_ : SpecOK Try.prog Γ_wField_ := SpecOK.upd o_wMask_ s_wField_

/-! ### wNumber -/

def ish_wNumber : FSh := ⟨[.v false [.k (.n .u64)], .v false [.k (.n .i64)]], []⟩
def osh_wNumber : FSh := ⟨[.tup [(false, [.k (.n .i64)]), (false, [.k (.n .i64)])]], []⟩
def T_wNumber (x0 : Int) (x1 : Int) : Tr (List At) :=
 .br 8 (decide (x1 < (0 : Int)))
 (.ok [(.i ((0 : Int))), (.i ((2 : Int)))])
 (.br 13 (decide (x0 > IntKind.wrap IntKind.u64 x1))
 (.ok [(.i ((0 : Int))), (.i ((2 : Int)))])
 (.ok [(.i (IntKind.wrap IntKind.i64 x0)), (.i ((0 : Int)))]))
def y_wNumber : Nat → Option Nat := (syOf3 [8, 13] [] [])
def TL_wNumber (l : List At) : Tr (List At) := T_wNumber (aI l 0) (aI l 1)
theorem e_wNumber (l : List At) : (call Try.prog Γ_wField_ y_wNumber noLoops 100 Try.f17 (mkV ish_wNumber l) (mkH ish_wNumber l)).bind (leafO 0 osh_wNumber) = TL_wNumber l := by kernel_rfl
def r_wNumber_0 (x0 : Int) (x1 : Int) : Int :=
  bif decide (x1 < (0 : Int)) then ((0 : Int))
  else bif decide (x0 > IntKind.wrap IntKind.u64 x1) then ((0 : Int))
  else IntKind.wrap IntKind.i64 x0
def r_wNumber_1 (x0 : Int) (x1 : Int) : Int :=
  bif decide (x1 < (0 : Int)) then ((2 : Int))
  else bif decide (x0 > IntKind.wrap IntKind.u64 x1) then ((2 : Int))
  else (0 : Int)
def F_wNumber : List At → Tr (List At) := fun l => .ok [.i (r_wNumber_0 (aI l 0) (aI l 1)), .i (r_wNumber_1 (aI l 0) (aI l 1))]
theorem s_wNumber : SpecF Try.prog 17 (.pure (locP ish_wNumber osh_wNumber F_wNumber)) :=
  spec_locP (sy := y_wNumber) (fuel := 100) (Lp := noLoops) o_wField_ mixed ⟨Try.func17, by kernel_rfl, by kernel_rfl⟩ ish_wNumber osh_wNumber rfl (noLoops_ok _) (hT_merged [.i, .i] e_wNumber (fun l => by kernel_rfl) (fun l => by kernel_rfl))
def Γ_wNumber : Specs := upd Γ_wField_ 17 (.pure (locP ish_wNumber osh_wNumber F_wNumber))
theorem o_wNumber : SpecOK Try.prog Γ_wNumber := SpecOK.upd o_wField_ s_wNumber

/-! ### within_ -/

def ish_within_ : FSh := ⟨[.v false [.k (.n .i64)], .v false [.k (.n .i64)], .v false [.k (.n .i64)]], []⟩
def osh_within_ : FSh := ⟨[.v false [.k .b]], []⟩
def T_within_ (x0 : Int) (x1 : Int) (x2 : Int) : Tr (List At) :=
 .br 10 (decide (x0 ≥ x1))
 (.ok [(.b (decide (x0 ≤ x2)))])
 (.ok [(.b (false))])
def y_within_ : Nat → Option Nat := (syOf3 [10] [] [])
def TL_within_ (l : List At) : Tr (List At) := T_within_ (aI l 0) (aI l 1) (aI l 2)
theorem e_within_ (l : List At) : (call Try.prog Γ_wNumber y_within_ noLoops 100 Try.f15 (mkV ish_within_ l) (mkH ish_within_ l)).bind (leafO 0 osh_within_) = TL_within_ l := by kernel_rfl
def r_within__0 (x0 : Int) (x1 : Int) (x2 : Int) : Bool :=
  bif decide (x0 ≥ x1) then (decide (x0 ≤ x2))
  else false
def F_within_ : List At → Tr (List At) := fun l => .ok [.b (r_within__0 (aI l 0) (aI l 1) (aI l 2))]
theorem s_within_ : SpecF Try.prog 15 (.pure (locP ish_within_ osh_within_ F_within_)) :=
  spec_locP (sy := y_within_) (fuel := 100) (Lp := noLoops) o_wNumber mixed ⟨Try.func15, by kernel_rfl, by kernel_rfl⟩ ish_within_ osh_within_ rfl (noLoops_ok _) (hT_merged [.b] e_within_ (fun l => by kernel_rfl) (fun l => by kernel_rfl))
def Γ_within_ : Specs := upd Γ_wNumber 15 (.pure (locP ish_within_ osh_within_ F_within_))
theorem o_within_ : SpecOK Try.prog Γ_within_ := SpecOK.upd o_wNumber s_within_

/-! ### right -/

def ish_right : FSh := ⟨[.v true [.k (.n .i64), .k (.n .u64), .k (.n .u64), .k (.n .u64), .k (.n .u64), .k (.n .u64), .k (.n .u64), .k (.n .i64), .k (.n .i64), .k (.n .i64), .k (.n .i64)]], []⟩
def osh_right : FSh := ⟨[.v false [.k .b]], []⟩
def T_right (x0 : Int) (x1 : Int) (x2 : Int) (x3 : Int) (x4 : Int) (x5 : Int) (x6 : Int) (x7 : Int) (x8 : Int) (x9 : Int) (x10 : Int) : Tr (List At) :=
 .br 5 (x7 == (3 : Int))
 (.br 10 (r_within__0 x8 (0 : Int) (48 : Int))
 (.br 15 (r_within__0 x9 (0 : Int) (7 : Int))
 (.ok [(.b (r_within__0 x10 (0 : Int) (1 : Int)))])
 (.ok [(.b (false))]))
 (.ok [(.b (false))]))
 (.br 20 (x7 == (4 : Int))
 (.br 25 (r_within__0 x8 (0 : Int) (48 : Int))
 (.br 30 (r_within__0 x9 (0 : Int) (7 : Int))
 (.ok [(.b (x10 == (0 : Int)))])
 (.ok [(.b (false))]))
 (.ok [(.b (false))]))
 (.br 35 (x7 == (5 : Int))
 (.br 40 (r_within__0 x8 (0 : Int) (255 : Int))
 (.br 45 (x9 == (0 : Int))
 (.ok [(.b (x10 == (0 : Int)))])
 (.ok [(.b (false))]))
 (.ok [(.b (false))]))
 (.br 50 (x7 == (1 : Int))
 (.br 56 (x8 == (0 : Int))
 (.br 61 (x9 == (0 : Int))
 (.ok [(.b (x10 == (0 : Int)))])
 (.ok [(.b (false))]))
 (.ok [(.b (false))]))
 (.br 50 (x7 == (2 : Int))
 (.br 56 (x8 == (0 : Int))
 (.br 61 (x9 == (0 : Int))
 (.ok [(.b (x10 == (0 : Int)))])
 (.ok [(.b (false))]))
 (.ok [(.b (false))]))
 (.ok [(.b (false))])))))
def y_right : Nat → Option Nat := (syOf3 [5, 10, 15, 20, 25, 30, 35, 40, 45, 50, 56, 61] [] [])
def TL_right (l : List At) : Tr (List At) := T_right (aI l 0) (aI l 1) (aI l 2) (aI l 3) (aI l 4) (aI l 5) (aI l 6) (aI l 7) (aI l 8) (aI l 9) (aI l 10)
theorem e_right (l : List At) : (call Try.prog Γ_within_ y_right noLoops 100 Try.f14 (mkV ish_right l) (mkH ish_right l)).bind (leafO 0 osh_right) = TL_right l := by kernel_rfl
def r_right_0 (x7 : Int) (x8 : Int) (x9 : Int) (x10 : Int) : Bool :=
  bif x7 == (3 : Int) then (bif r_within__0 x8 (0 : Int) (48 : Int) then (bif r_within__0 x9 (0 : Int) (7 : Int) then (r_within__0 x10 (0 : Int) (1 : Int))
  else false)
  else false)
  else bif x7 == (4 : Int) then (bif r_within__0 x8 (0 : Int) (48 : Int) then (bif r_within__0 x9 (0 : Int) (7 : Int) then (x10 == (0 : Int))
  else false)
  else false)
  else bif x7 == (5 : Int) then (bif r_within__0 x8 (0 : Int) (255 : Int) then (bif x9 == (0 : Int) then (x10 == (0 : Int))
  else false)
  else false)
  else bif x7 == (1 : Int) then (bif x8 == (0 : Int) then (bif x9 == (0 : Int) then (x10 == (0 : Int))
  else false)
  else false)
  else bif x7 == (2 : Int) then (bif x8 == (0 : Int) then (bif x9 == (0 : Int) then (x10 == (0 : Int))
  else false)
  else false)
  else false
def F_right : List At → Tr (List At) := fun l => .ok [.b (r_right_0 (aI l 7) (aI l 8) (aI l 9) (aI l 10))]
theorem s_right : SpecF Try.prog 14 (.pure (locP ish_right osh_right F_right)) :=
  spec_locP (sy := y_right) (fuel := 100) (Lp := noLoops) o_within_ mixed ⟨Try.func14, by kernel_rfl, by kernel_rfl⟩ ish_right osh_right rfl (noLoops_ok _) (hT_merged [.b] e_right (fun l => by kernel_rfl) (fun l => by kernel_rfl))
def Γ_right : Specs := upd Γ_within_ 14 (.pure (locP ish_right osh_right F_right))
theorem o_right : SpecOK Try.prog Γ_right := SpecOK.upd o_within_ s_right

/-! ### gLine -/

def ish_gLine : FSh := ⟨[.v true [.k (.n .i64), .k (.n .u64), .k (.n .u64), .k (.n .u64), .k (.n .u64), .k (.n .u64), .k (.n .u64), .k (.n .i64), .k (.n .i64), .k (.n .i64), .k (.n .i64)]], []⟩
def osh_gLine : FSh := ⟨[.tup [(true, [.k (.n .u64), .k (.n .u64), .k (.n .u64), .k (.n .u64), .k (.n .u64), .k (.n .u64), .k (.n .u64), .k (.n .u64)]), (false, [.k (.n .i64)])]], []⟩
def T_gLine (x0 : Int) (x1 : Int) (x2 : Int) (x3 : Int) (x4 : Int) (x5 : Int) (x6 : Int) (x7 : Int) (x8 : Int) (x9 : Int) (x10 : Int) : Tr (List At) :=
 .br 8 (!r_right_0 x7 x8 x9 x10)
 (.ok [(.i ((0 : Int))), (.i ((0 : Int))), (.i ((0 : Int))), (.i ((0 : Int))), (.i ((0 : Int))), (.i ((0 : Int))), (.i ((0 : Int))), (.i ((0 : Int))), (.i ((1 : Int)))])
 (.br 13 (!r_within__0 x0 (0 : Int) (1099511627776 : Int))
 (.ok [(.i ((0 : Int))), (.i ((0 : Int))), (.i ((0 : Int))), (.i ((0 : Int))), (.i ((0 : Int))), (.i ((0 : Int))), (.i ((0 : Int))), (.i ((0 : Int))), (.i ((1 : Int)))])
 (.ok [(.i (IntKind.wrap IntKind.u64 x0)), (.i (x1)), (.i (x2)), (.i (x3)), (.i (x4)), (.i (x5)), (.i (x6)), (.i (bits BinOp.or IntKind.u64 (bits BinOp.or IntKind.u64 (bits BinOp.or IntKind.u64 (IntKind.wrap IntKind.u64 x7) (IntKind.wrap IntKind.u64 (IntKind.wrap IntKind.u64 x8 * (16 : Int)))) (IntKind.wrap IntKind.u64 (IntKind.wrap IntKind.u64 x9 * (1048576 : Int)))) (IntKind.wrap IntKind.u64 (IntKind.wrap IntKind.u64 x10 * (16777216 : Int))))), (.i ((0 : Int)))]))
def y_gLine : Nat → Option Nat := (syOf3 [8, 13] [] [])
def TL_gLine (l : List At) : Tr (List At) := T_gLine (aI l 0) (aI l 1) (aI l 2) (aI l 3) (aI l 4) (aI l 5) (aI l 6) (aI l 7) (aI l 8) (aI l 9) (aI l 10)
theorem e_gLine (l : List At) : (call Try.prog Γ_right y_gLine noLoops 100 Try.f8 (mkV ish_gLine l) (mkH ish_gLine l)).bind (leafO 0 osh_gLine) = TL_gLine l := by kernel_rfl
def r_gLine_0 (x0 : Int) (x7 : Int) (x8 : Int) (x9 : Int) (x10 : Int) : Int :=
  bif !r_right_0 x7 x8 x9 x10 then ((0 : Int))
  else bif !r_within__0 x0 (0 : Int) (1099511627776 : Int) then ((0 : Int))
  else IntKind.wrap IntKind.u64 x0
def r_gLine_1 (x0 : Int) (x1 : Int) (x7 : Int) (x8 : Int) (x9 : Int) (x10 : Int) : Int :=
  bif !r_right_0 x7 x8 x9 x10 then ((0 : Int))
  else bif !r_within__0 x0 (0 : Int) (1099511627776 : Int) then ((0 : Int))
  else x1
def r_gLine_2 (x0 : Int) (x2 : Int) (x7 : Int) (x8 : Int) (x9 : Int) (x10 : Int) : Int :=
  bif !r_right_0 x7 x8 x9 x10 then ((0 : Int))
  else bif !r_within__0 x0 (0 : Int) (1099511627776 : Int) then ((0 : Int))
  else x2
def r_gLine_3 (x0 : Int) (x3 : Int) (x7 : Int) (x8 : Int) (x9 : Int) (x10 : Int) : Int :=
  bif !r_right_0 x7 x8 x9 x10 then ((0 : Int))
  else bif !r_within__0 x0 (0 : Int) (1099511627776 : Int) then ((0 : Int))
  else x3
def r_gLine_4 (x0 : Int) (x4 : Int) (x7 : Int) (x8 : Int) (x9 : Int) (x10 : Int) : Int :=
  bif !r_right_0 x7 x8 x9 x10 then ((0 : Int))
  else bif !r_within__0 x0 (0 : Int) (1099511627776 : Int) then ((0 : Int))
  else x4
def r_gLine_5 (x0 : Int) (x5 : Int) (x7 : Int) (x8 : Int) (x9 : Int) (x10 : Int) : Int :=
  bif !r_right_0 x7 x8 x9 x10 then ((0 : Int))
  else bif !r_within__0 x0 (0 : Int) (1099511627776 : Int) then ((0 : Int))
  else x5
def r_gLine_6 (x0 : Int) (x6 : Int) (x7 : Int) (x8 : Int) (x9 : Int) (x10 : Int) : Int :=
  bif !r_right_0 x7 x8 x9 x10 then ((0 : Int))
  else bif !r_within__0 x0 (0 : Int) (1099511627776 : Int) then ((0 : Int))
  else x6
def r_gLine_7 (x0 : Int) (x7 : Int) (x8 : Int) (x9 : Int) (x10 : Int) : Int :=
  bif !r_right_0 x7 x8 x9 x10 then ((0 : Int))
  else bif !r_within__0 x0 (0 : Int) (1099511627776 : Int) then ((0 : Int))
  else bits BinOp.or IntKind.u64 (bits BinOp.or IntKind.u64 (bits BinOp.or IntKind.u64 (IntKind.wrap IntKind.u64 x7) (IntKind.wrap IntKind.u64 (IntKind.wrap IntKind.u64 x8 * (16 : Int)))) (IntKind.wrap IntKind.u64 (IntKind.wrap IntKind.u64 x9 * (1048576 : Int)))) (IntKind.wrap IntKind.u64 (IntKind.wrap IntKind.u64 x10 * (16777216 : Int)))
def r_gLine_8 (x0 : Int) (x7 : Int) (x8 : Int) (x9 : Int) (x10 : Int) : Int :=
  bif !r_right_0 x7 x8 x9 x10 then ((1 : Int))
  else bif !r_within__0 x0 (0 : Int) (1099511627776 : Int) then ((1 : Int))
  else (0 : Int)
def F_gLine : List At → Tr (List At) := fun l => .ok [.i (r_gLine_0 (aI l 0) (aI l 7) (aI l 8) (aI l 9) (aI l 10)), .i (r_gLine_1 (aI l 0) (aI l 1) (aI l 7) (aI l 8) (aI l 9) (aI l 10)), .i (r_gLine_2 (aI l 0) (aI l 2) (aI l 7) (aI l 8) (aI l 9) (aI l 10)), .i (r_gLine_3 (aI l 0) (aI l 3) (aI l 7) (aI l 8) (aI l 9) (aI l 10)), .i (r_gLine_4 (aI l 0) (aI l 4) (aI l 7) (aI l 8) (aI l 9) (aI l 10)), .i (r_gLine_5 (aI l 0) (aI l 5) (aI l 7) (aI l 8) (aI l 9) (aI l 10)), .i (r_gLine_6 (aI l 0) (aI l 6) (aI l 7) (aI l 8) (aI l 9) (aI l 10)), .i (r_gLine_7 (aI l 0) (aI l 7) (aI l 8) (aI l 9) (aI l 10)), .i (r_gLine_8 (aI l 0) (aI l 7) (aI l 8) (aI l 9) (aI l 10))]
theorem s_gLine : SpecF Try.prog 8 (.pure (locP ish_gLine osh_gLine F_gLine)) :=
  spec_locP (sy := y_gLine) (fuel := 100) (Lp := noLoops) o_right mixed ⟨Try.func8, by kernel_rfl, by kernel_rfl⟩ ish_gLine osh_gLine rfl (noLoops_ok _) (hT_merged [.i, .i, .i, .i, .i, .i, .i, .i, .i] e_gLine (fun l => by kernel_rfl) (fun l => by kernel_rfl))
def Γ_gLine : Specs := upd Γ_right 8 (.pure (locP ish_gLine osh_gLine F_gLine))
theorem o_gLine : SpecOK Try.prog Γ_gLine := SpecOK.upd o_right s_gLine

/-! ### gPart -/

def ish_gPart : FSh := ⟨[.v false [.k (.n .i64)], .v false [.k (.n .i64)], .v false [.p 0 0]], [.roc [.k (.n .u64), .k (.n .u64), .k (.n .u64), .k (.n .u64), .k (.n .u64), .k (.n .u64), .k (.n .u64), .k (.n .u64)]]⟩
def osh_gPart : FSh := ⟨[.v false [.k (.n .i64)]], [.no]⟩
def T_gPart (x0 : Int) (x1 : Int) (x2 : Int) (x3 : Int) (x4 : Int) (x5 : Int) (x6 : Int) (x7 : Int) (x8 : Int) (x9 : Int) : Tr (List At) :=
 .br 0 (ok_wField_ x9 x0 x1)
 (.ok [(.i (IntKind.wrap IntKind.i64 (r_wField__0 x9 x0 x1)))])
 (.no)
def y_gPart : Nat → Option Nat := (syOf3 [] [] [])
def TL_gPart (l : List At) : Tr (List At) := T_gPart (aI l 0) (aI l 1) (aI l 2) (aI l 3) (aI l 4) (aI l 5) (aI l 6) (aI l 7) (aI l 8) (aI l 9)
theorem e_gPart (l : List At) : (call Try.prog Γ_gLine y_gPart noLoops 100 Try.f18 (mkV ish_gPart l) (mkH ish_gPart l)).bind (leafO 1 osh_gPart) = TL_gPart l := by kernel_rfl
def r_gPart_0 (x0 : Int) (x1 : Int) (x9 : Int) : Int :=
  bif ok_wField_ x9 x0 x1 then (IntKind.wrap IntKind.i64 (r_wField__0 x9 x0 x1))
  else 0
def ok_gPart (x0 : Int) (x1 : Int) (x2 : Int) (x3 : Int) (x4 : Int) (x5 : Int) (x6 : Int) (x7 : Int) (x8 : Int) (x9 : Int) : Bool :=
  bif ok_wField_ x9 x0 x1 then (true)
  else false
def F_gPart : List At → Tr (List At) := fun l => .br 0 (ok_gPart (aI l 0) (aI l 1) (aI l 2) (aI l 3) (aI l 4) (aI l 5) (aI l 6) (aI l 7) (aI l 8) (aI l 9)) (.ok [.i (r_gPart_0 (aI l 0) (aI l 1) (aI l 9))]) .no
theorem s_gPart : SpecF Try.prog 18 (.read (locR ish_gPart osh_gPart F_gPart)) :=
  spec_read (sy := y_gPart) (fuel := 100) (Lp := noLoops) o_gLine mixed ⟨Try.func18, by kernel_rfl, by kernel_rfl⟩ ish_gPart osh_gPart (by kernel_rfl) (noLoops_ok _) (hT_merged [.i] e_gPart (fun l => by kernel_rfl) (fun l => by kernel_rfl))
def Γ_gPart : Specs := upd Γ_gLine 18 (.read (locR ish_gPart osh_gPart F_gPart))
theorem o_gPart : SpecOK Try.prog Γ_gPart := SpecOK.upd o_gLine s_gPart

/-! ### gOf -/

def ish_gOf : FSh := ⟨[.v true [.k (.n .u64), .k (.n .u64), .k (.n .u64), .k (.n .u64), .k (.n .u64), .k (.n .u64), .k (.n .u64), .k (.n .u64)]], []⟩
def osh_gOf : FSh := ⟨[.tup [(true, [.k (.n .i64), .k (.n .u64), .k (.n .u64), .k (.n .u64), .k (.n .u64), .k (.n .u64), .k (.n .u64), .k (.n .i64), .k (.n .i64), .k (.n .i64), .k (.n .i64)]), (false, [.k .b])]], []⟩
def T_gOf (x0 : Int) (x1 : Int) (x2 : Int) (x3 : Int) (x4 : Int) (x5 : Int) (x6 : Int) (x7 : Int) : Tr (List At) :=
 .br 17 (r_wNumber_1 x0 (1099511627776 : Int) != (0 : Int))
 (.ok [(.i ((0 : Int))), (.i ((0 : Int))), (.i ((0 : Int))), (.i ((0 : Int))), (.i ((0 : Int))), (.i ((0 : Int))), (.i ((0 : Int))), (.i ((0 : Int))), (.i ((0 : Int))), (.i ((0 : Int))), (.i ((0 : Int))), (.b (false))])
 (.br 0 (ok_gPart (0 : Int) (4 : Int) x0 x1 x2 x3 x4 x5 x6 x7)
 (.br 0 (ok_gPart (4 : Int) (16 : Int) x0 x1 x2 x3 x4 x5 x6 x7)
 (.br 0 (ok_gPart (20 : Int) (4 : Int) x0 x1 x2 x3 x4 x5 x6 x7)
 (.br 0 (ok_gPart (24 : Int) (1 : Int) x0 x1 x2 x3 x4 x5 x6 x7)
 (.br 45 (r_gLine_8 (r_wNumber_0 x0 (1099511627776 : Int)) (r_gPart_0 (0 : Int) (4 : Int) x7) (r_gPart_0 (4 : Int) (16 : Int) x7) (r_gPart_0 (20 : Int) (4 : Int) x7) (r_gPart_0 (24 : Int) (1 : Int) x7) != (0 : Int))
 (.ok [(.i ((0 : Int))), (.i ((0 : Int))), (.i ((0 : Int))), (.i ((0 : Int))), (.i ((0 : Int))), (.i ((0 : Int))), (.i ((0 : Int))), (.i ((0 : Int))), (.i ((0 : Int))), (.i ((0 : Int))), (.i ((0 : Int))), (.b (false))])
 (.br 49 (!(r_gLine_0 (r_wNumber_0 x0 (1099511627776 : Int)) (r_gPart_0 (0 : Int) (4 : Int) x7) (r_gPart_0 (4 : Int) (16 : Int) x7) (r_gPart_0 (20 : Int) (4 : Int) x7) (r_gPart_0 (24 : Int) (1 : Int) x7) == x0 && (r_gLine_1 (r_wNumber_0 x0 (1099511627776 : Int)) x1 (r_gPart_0 (0 : Int) (4 : Int) x7) (r_gPart_0 (4 : Int) (16 : Int) x7) (r_gPart_0 (20 : Int) (4 : Int) x7) (r_gPart_0 (24 : Int) (1 : Int) x7) == x1 && (r_gLine_2 (r_wNumber_0 x0 (1099511627776 : Int)) x2 (r_gPart_0 (0 : Int) (4 : Int) x7) (r_gPart_0 (4 : Int) (16 : Int) x7) (r_gPart_0 (20 : Int) (4 : Int) x7) (r_gPart_0 (24 : Int) (1 : Int) x7) == x2 && (r_gLine_3 (r_wNumber_0 x0 (1099511627776 : Int)) x3 (r_gPart_0 (0 : Int) (4 : Int) x7) (r_gPart_0 (4 : Int) (16 : Int) x7) (r_gPart_0 (20 : Int) (4 : Int) x7) (r_gPart_0 (24 : Int) (1 : Int) x7) == x3 && (r_gLine_4 (r_wNumber_0 x0 (1099511627776 : Int)) x4 (r_gPart_0 (0 : Int) (4 : Int) x7) (r_gPart_0 (4 : Int) (16 : Int) x7) (r_gPart_0 (20 : Int) (4 : Int) x7) (r_gPart_0 (24 : Int) (1 : Int) x7) == x4 && (r_gLine_5 (r_wNumber_0 x0 (1099511627776 : Int)) x5 (r_gPart_0 (0 : Int) (4 : Int) x7) (r_gPart_0 (4 : Int) (16 : Int) x7) (r_gPart_0 (20 : Int) (4 : Int) x7) (r_gPart_0 (24 : Int) (1 : Int) x7) == x5 && (r_gLine_6 (r_wNumber_0 x0 (1099511627776 : Int)) x6 (r_gPart_0 (0 : Int) (4 : Int) x7) (r_gPart_0 (4 : Int) (16 : Int) x7) (r_gPart_0 (20 : Int) (4 : Int) x7) (r_gPart_0 (24 : Int) (1 : Int) x7) == x6 && (r_gLine_7 (r_wNumber_0 x0 (1099511627776 : Int)) (r_gPart_0 (0 : Int) (4 : Int) x7) (r_gPart_0 (4 : Int) (16 : Int) x7) (r_gPart_0 (20 : Int) (4 : Int) x7) (r_gPart_0 (24 : Int) (1 : Int) x7) == x7 && true)))))))))
 (.ok [(.i ((0 : Int))), (.i ((0 : Int))), (.i ((0 : Int))), (.i ((0 : Int))), (.i ((0 : Int))), (.i ((0 : Int))), (.i ((0 : Int))), (.i ((0 : Int))), (.i ((0 : Int))), (.i ((0 : Int))), (.i ((0 : Int))), (.b (false))])
 (.ok [(.i (r_wNumber_0 x0 (1099511627776 : Int))), (.i (x1)), (.i (x2)), (.i (x3)), (.i (x4)), (.i (x5)), (.i (x6)), (.i (r_gPart_0 (0 : Int) (4 : Int) x7)), (.i (r_gPart_0 (4 : Int) (16 : Int) x7)), (.i (r_gPart_0 (20 : Int) (4 : Int) x7)), (.i (r_gPart_0 (24 : Int) (1 : Int) x7)), (.b (true))])))
 (.no))
 (.no))
 (.no))
 (.no))
def y_gOf : Nat → Option Nat := (syOf3 [17, 45, 49] [] [])
def TL_gOf (l : List At) : Tr (List At) := T_gOf (aI l 0) (aI l 1) (aI l 2) (aI l 3) (aI l 4) (aI l 5) (aI l 6) (aI l 7)
theorem e_gOf (l : List At) : (call Try.prog Γ_gPart y_gOf noLoops 100 Try.f10 (mkV ish_gOf l) (mkH ish_gOf l)).bind (leafO 0 osh_gOf) = TL_gOf l := by kernel_rfl
def r_gOf_0 (x0 : Int) (x1 : Int) (x2 : Int) (x3 : Int) (x4 : Int) (x5 : Int) (x6 : Int) (x7 : Int) : Int :=
  bif r_wNumber_1 x0 (1099511627776 : Int) != (0 : Int) then ((0 : Int))
  else bif ok_gPart (0 : Int) (4 : Int) x0 x1 x2 x3 x4 x5 x6 x7 then (bif ok_gPart (4 : Int) (16 : Int) x0 x1 x2 x3 x4 x5 x6 x7 then (bif ok_gPart (20 : Int) (4 : Int) x0 x1 x2 x3 x4 x5 x6 x7 then (bif ok_gPart (24 : Int) (1 : Int) x0 x1 x2 x3 x4 x5 x6 x7 then (bif r_gLine_8 (r_wNumber_0 x0 (1099511627776 : Int)) (r_gPart_0 (0 : Int) (4 : Int) x7) (r_gPart_0 (4 : Int) (16 : Int) x7) (r_gPart_0 (20 : Int) (4 : Int) x7) (r_gPart_0 (24 : Int) (1 : Int) x7) != (0 : Int) then ((0 : Int))
  else bif !(r_gLine_0 (r_wNumber_0 x0 (1099511627776 : Int)) (r_gPart_0 (0 : Int) (4 : Int) x7) (r_gPart_0 (4 : Int) (16 : Int) x7) (r_gPart_0 (20 : Int) (4 : Int) x7) (r_gPart_0 (24 : Int) (1 : Int) x7) == x0 && (r_gLine_1 (r_wNumber_0 x0 (1099511627776 : Int)) x1 (r_gPart_0 (0 : Int) (4 : Int) x7) (r_gPart_0 (4 : Int) (16 : Int) x7) (r_gPart_0 (20 : Int) (4 : Int) x7) (r_gPart_0 (24 : Int) (1 : Int) x7) == x1 && (r_gLine_2 (r_wNumber_0 x0 (1099511627776 : Int)) x2 (r_gPart_0 (0 : Int) (4 : Int) x7) (r_gPart_0 (4 : Int) (16 : Int) x7) (r_gPart_0 (20 : Int) (4 : Int) x7) (r_gPart_0 (24 : Int) (1 : Int) x7) == x2 && (r_gLine_3 (r_wNumber_0 x0 (1099511627776 : Int)) x3 (r_gPart_0 (0 : Int) (4 : Int) x7) (r_gPart_0 (4 : Int) (16 : Int) x7) (r_gPart_0 (20 : Int) (4 : Int) x7) (r_gPart_0 (24 : Int) (1 : Int) x7) == x3 && (r_gLine_4 (r_wNumber_0 x0 (1099511627776 : Int)) x4 (r_gPart_0 (0 : Int) (4 : Int) x7) (r_gPart_0 (4 : Int) (16 : Int) x7) (r_gPart_0 (20 : Int) (4 : Int) x7) (r_gPart_0 (24 : Int) (1 : Int) x7) == x4 && (r_gLine_5 (r_wNumber_0 x0 (1099511627776 : Int)) x5 (r_gPart_0 (0 : Int) (4 : Int) x7) (r_gPart_0 (4 : Int) (16 : Int) x7) (r_gPart_0 (20 : Int) (4 : Int) x7) (r_gPart_0 (24 : Int) (1 : Int) x7) == x5 && (r_gLine_6 (r_wNumber_0 x0 (1099511627776 : Int)) x6 (r_gPart_0 (0 : Int) (4 : Int) x7) (r_gPart_0 (4 : Int) (16 : Int) x7) (r_gPart_0 (20 : Int) (4 : Int) x7) (r_gPart_0 (24 : Int) (1 : Int) x7) == x6 && (r_gLine_7 (r_wNumber_0 x0 (1099511627776 : Int)) (r_gPart_0 (0 : Int) (4 : Int) x7) (r_gPart_0 (4 : Int) (16 : Int) x7) (r_gPart_0 (20 : Int) (4 : Int) x7) (r_gPart_0 (24 : Int) (1 : Int) x7) == x7 && true)))))))) then ((0 : Int))
  else r_wNumber_0 x0 (1099511627776 : Int))
  else 0)
  else 0)
  else 0)
  else 0
def r_gOf_1 (x0 : Int) (x1 : Int) (x2 : Int) (x3 : Int) (x4 : Int) (x5 : Int) (x6 : Int) (x7 : Int) : Int :=
  bif r_wNumber_1 x0 (1099511627776 : Int) != (0 : Int) then ((0 : Int))
  else bif ok_gPart (0 : Int) (4 : Int) x0 x1 x2 x3 x4 x5 x6 x7 then (bif ok_gPart (4 : Int) (16 : Int) x0 x1 x2 x3 x4 x5 x6 x7 then (bif ok_gPart (20 : Int) (4 : Int) x0 x1 x2 x3 x4 x5 x6 x7 then (bif ok_gPart (24 : Int) (1 : Int) x0 x1 x2 x3 x4 x5 x6 x7 then (bif r_gLine_8 (r_wNumber_0 x0 (1099511627776 : Int)) (r_gPart_0 (0 : Int) (4 : Int) x7) (r_gPart_0 (4 : Int) (16 : Int) x7) (r_gPart_0 (20 : Int) (4 : Int) x7) (r_gPart_0 (24 : Int) (1 : Int) x7) != (0 : Int) then ((0 : Int))
  else bif !(r_gLine_0 (r_wNumber_0 x0 (1099511627776 : Int)) (r_gPart_0 (0 : Int) (4 : Int) x7) (r_gPart_0 (4 : Int) (16 : Int) x7) (r_gPart_0 (20 : Int) (4 : Int) x7) (r_gPart_0 (24 : Int) (1 : Int) x7) == x0 && (r_gLine_1 (r_wNumber_0 x0 (1099511627776 : Int)) x1 (r_gPart_0 (0 : Int) (4 : Int) x7) (r_gPart_0 (4 : Int) (16 : Int) x7) (r_gPart_0 (20 : Int) (4 : Int) x7) (r_gPart_0 (24 : Int) (1 : Int) x7) == x1 && (r_gLine_2 (r_wNumber_0 x0 (1099511627776 : Int)) x2 (r_gPart_0 (0 : Int) (4 : Int) x7) (r_gPart_0 (4 : Int) (16 : Int) x7) (r_gPart_0 (20 : Int) (4 : Int) x7) (r_gPart_0 (24 : Int) (1 : Int) x7) == x2 && (r_gLine_3 (r_wNumber_0 x0 (1099511627776 : Int)) x3 (r_gPart_0 (0 : Int) (4 : Int) x7) (r_gPart_0 (4 : Int) (16 : Int) x7) (r_gPart_0 (20 : Int) (4 : Int) x7) (r_gPart_0 (24 : Int) (1 : Int) x7) == x3 && (r_gLine_4 (r_wNumber_0 x0 (1099511627776 : Int)) x4 (r_gPart_0 (0 : Int) (4 : Int) x7) (r_gPart_0 (4 : Int) (16 : Int) x7) (r_gPart_0 (20 : Int) (4 : Int) x7) (r_gPart_0 (24 : Int) (1 : Int) x7) == x4 && (r_gLine_5 (r_wNumber_0 x0 (1099511627776 : Int)) x5 (r_gPart_0 (0 : Int) (4 : Int) x7) (r_gPart_0 (4 : Int) (16 : Int) x7) (r_gPart_0 (20 : Int) (4 : Int) x7) (r_gPart_0 (24 : Int) (1 : Int) x7) == x5 && (r_gLine_6 (r_wNumber_0 x0 (1099511627776 : Int)) x6 (r_gPart_0 (0 : Int) (4 : Int) x7) (r_gPart_0 (4 : Int) (16 : Int) x7) (r_gPart_0 (20 : Int) (4 : Int) x7) (r_gPart_0 (24 : Int) (1 : Int) x7) == x6 && (r_gLine_7 (r_wNumber_0 x0 (1099511627776 : Int)) (r_gPart_0 (0 : Int) (4 : Int) x7) (r_gPart_0 (4 : Int) (16 : Int) x7) (r_gPart_0 (20 : Int) (4 : Int) x7) (r_gPart_0 (24 : Int) (1 : Int) x7) == x7 && true)))))))) then ((0 : Int))
  else x1)
  else 0)
  else 0)
  else 0)
  else 0
def r_gOf_2 (x0 : Int) (x1 : Int) (x2 : Int) (x3 : Int) (x4 : Int) (x5 : Int) (x6 : Int) (x7 : Int) : Int :=
  bif r_wNumber_1 x0 (1099511627776 : Int) != (0 : Int) then ((0 : Int))
  else bif ok_gPart (0 : Int) (4 : Int) x0 x1 x2 x3 x4 x5 x6 x7 then (bif ok_gPart (4 : Int) (16 : Int) x0 x1 x2 x3 x4 x5 x6 x7 then (bif ok_gPart (20 : Int) (4 : Int) x0 x1 x2 x3 x4 x5 x6 x7 then (bif ok_gPart (24 : Int) (1 : Int) x0 x1 x2 x3 x4 x5 x6 x7 then (bif r_gLine_8 (r_wNumber_0 x0 (1099511627776 : Int)) (r_gPart_0 (0 : Int) (4 : Int) x7) (r_gPart_0 (4 : Int) (16 : Int) x7) (r_gPart_0 (20 : Int) (4 : Int) x7) (r_gPart_0 (24 : Int) (1 : Int) x7) != (0 : Int) then ((0 : Int))
  else bif !(r_gLine_0 (r_wNumber_0 x0 (1099511627776 : Int)) (r_gPart_0 (0 : Int) (4 : Int) x7) (r_gPart_0 (4 : Int) (16 : Int) x7) (r_gPart_0 (20 : Int) (4 : Int) x7) (r_gPart_0 (24 : Int) (1 : Int) x7) == x0 && (r_gLine_1 (r_wNumber_0 x0 (1099511627776 : Int)) x1 (r_gPart_0 (0 : Int) (4 : Int) x7) (r_gPart_0 (4 : Int) (16 : Int) x7) (r_gPart_0 (20 : Int) (4 : Int) x7) (r_gPart_0 (24 : Int) (1 : Int) x7) == x1 && (r_gLine_2 (r_wNumber_0 x0 (1099511627776 : Int)) x2 (r_gPart_0 (0 : Int) (4 : Int) x7) (r_gPart_0 (4 : Int) (16 : Int) x7) (r_gPart_0 (20 : Int) (4 : Int) x7) (r_gPart_0 (24 : Int) (1 : Int) x7) == x2 && (r_gLine_3 (r_wNumber_0 x0 (1099511627776 : Int)) x3 (r_gPart_0 (0 : Int) (4 : Int) x7) (r_gPart_0 (4 : Int) (16 : Int) x7) (r_gPart_0 (20 : Int) (4 : Int) x7) (r_gPart_0 (24 : Int) (1 : Int) x7) == x3 && (r_gLine_4 (r_wNumber_0 x0 (1099511627776 : Int)) x4 (r_gPart_0 (0 : Int) (4 : Int) x7) (r_gPart_0 (4 : Int) (16 : Int) x7) (r_gPart_0 (20 : Int) (4 : Int) x7) (r_gPart_0 (24 : Int) (1 : Int) x7) == x4 && (r_gLine_5 (r_wNumber_0 x0 (1099511627776 : Int)) x5 (r_gPart_0 (0 : Int) (4 : Int) x7) (r_gPart_0 (4 : Int) (16 : Int) x7) (r_gPart_0 (20 : Int) (4 : Int) x7) (r_gPart_0 (24 : Int) (1 : Int) x7) == x5 && (r_gLine_6 (r_wNumber_0 x0 (1099511627776 : Int)) x6 (r_gPart_0 (0 : Int) (4 : Int) x7) (r_gPart_0 (4 : Int) (16 : Int) x7) (r_gPart_0 (20 : Int) (4 : Int) x7) (r_gPart_0 (24 : Int) (1 : Int) x7) == x6 && (r_gLine_7 (r_wNumber_0 x0 (1099511627776 : Int)) (r_gPart_0 (0 : Int) (4 : Int) x7) (r_gPart_0 (4 : Int) (16 : Int) x7) (r_gPart_0 (20 : Int) (4 : Int) x7) (r_gPart_0 (24 : Int) (1 : Int) x7) == x7 && true)))))))) then ((0 : Int))
  else x2)
  else 0)
  else 0)
  else 0)
  else 0
def r_gOf_3 (x0 : Int) (x1 : Int) (x2 : Int) (x3 : Int) (x4 : Int) (x5 : Int) (x6 : Int) (x7 : Int) : Int :=
  bif r_wNumber_1 x0 (1099511627776 : Int) != (0 : Int) then ((0 : Int))
  else bif ok_gPart (0 : Int) (4 : Int) x0 x1 x2 x3 x4 x5 x6 x7 then (bif ok_gPart (4 : Int) (16 : Int) x0 x1 x2 x3 x4 x5 x6 x7 then (bif ok_gPart (20 : Int) (4 : Int) x0 x1 x2 x3 x4 x5 x6 x7 then (bif ok_gPart (24 : Int) (1 : Int) x0 x1 x2 x3 x4 x5 x6 x7 then (bif r_gLine_8 (r_wNumber_0 x0 (1099511627776 : Int)) (r_gPart_0 (0 : Int) (4 : Int) x7) (r_gPart_0 (4 : Int) (16 : Int) x7) (r_gPart_0 (20 : Int) (4 : Int) x7) (r_gPart_0 (24 : Int) (1 : Int) x7) != (0 : Int) then ((0 : Int))
  else bif !(r_gLine_0 (r_wNumber_0 x0 (1099511627776 : Int)) (r_gPart_0 (0 : Int) (4 : Int) x7) (r_gPart_0 (4 : Int) (16 : Int) x7) (r_gPart_0 (20 : Int) (4 : Int) x7) (r_gPart_0 (24 : Int) (1 : Int) x7) == x0 && (r_gLine_1 (r_wNumber_0 x0 (1099511627776 : Int)) x1 (r_gPart_0 (0 : Int) (4 : Int) x7) (r_gPart_0 (4 : Int) (16 : Int) x7) (r_gPart_0 (20 : Int) (4 : Int) x7) (r_gPart_0 (24 : Int) (1 : Int) x7) == x1 && (r_gLine_2 (r_wNumber_0 x0 (1099511627776 : Int)) x2 (r_gPart_0 (0 : Int) (4 : Int) x7) (r_gPart_0 (4 : Int) (16 : Int) x7) (r_gPart_0 (20 : Int) (4 : Int) x7) (r_gPart_0 (24 : Int) (1 : Int) x7) == x2 && (r_gLine_3 (r_wNumber_0 x0 (1099511627776 : Int)) x3 (r_gPart_0 (0 : Int) (4 : Int) x7) (r_gPart_0 (4 : Int) (16 : Int) x7) (r_gPart_0 (20 : Int) (4 : Int) x7) (r_gPart_0 (24 : Int) (1 : Int) x7) == x3 && (r_gLine_4 (r_wNumber_0 x0 (1099511627776 : Int)) x4 (r_gPart_0 (0 : Int) (4 : Int) x7) (r_gPart_0 (4 : Int) (16 : Int) x7) (r_gPart_0 (20 : Int) (4 : Int) x7) (r_gPart_0 (24 : Int) (1 : Int) x7) == x4 && (r_gLine_5 (r_wNumber_0 x0 (1099511627776 : Int)) x5 (r_gPart_0 (0 : Int) (4 : Int) x7) (r_gPart_0 (4 : Int) (16 : Int) x7) (r_gPart_0 (20 : Int) (4 : Int) x7) (r_gPart_0 (24 : Int) (1 : Int) x7) == x5 && (r_gLine_6 (r_wNumber_0 x0 (1099511627776 : Int)) x6 (r_gPart_0 (0 : Int) (4 : Int) x7) (r_gPart_0 (4 : Int) (16 : Int) x7) (r_gPart_0 (20 : Int) (4 : Int) x7) (r_gPart_0 (24 : Int) (1 : Int) x7) == x6 && (r_gLine_7 (r_wNumber_0 x0 (1099511627776 : Int)) (r_gPart_0 (0 : Int) (4 : Int) x7) (r_gPart_0 (4 : Int) (16 : Int) x7) (r_gPart_0 (20 : Int) (4 : Int) x7) (r_gPart_0 (24 : Int) (1 : Int) x7) == x7 && true)))))))) then ((0 : Int))
  else x3)
  else 0)
  else 0)
  else 0)
  else 0
def r_gOf_4 (x0 : Int) (x1 : Int) (x2 : Int) (x3 : Int) (x4 : Int) (x5 : Int) (x6 : Int) (x7 : Int) : Int :=
  bif r_wNumber_1 x0 (1099511627776 : Int) != (0 : Int) then ((0 : Int))
  else bif ok_gPart (0 : Int) (4 : Int) x0 x1 x2 x3 x4 x5 x6 x7 then (bif ok_gPart (4 : Int) (16 : Int) x0 x1 x2 x3 x4 x5 x6 x7 then (bif ok_gPart (20 : Int) (4 : Int) x0 x1 x2 x3 x4 x5 x6 x7 then (bif ok_gPart (24 : Int) (1 : Int) x0 x1 x2 x3 x4 x5 x6 x7 then (bif r_gLine_8 (r_wNumber_0 x0 (1099511627776 : Int)) (r_gPart_0 (0 : Int) (4 : Int) x7) (r_gPart_0 (4 : Int) (16 : Int) x7) (r_gPart_0 (20 : Int) (4 : Int) x7) (r_gPart_0 (24 : Int) (1 : Int) x7) != (0 : Int) then ((0 : Int))
  else bif !(r_gLine_0 (r_wNumber_0 x0 (1099511627776 : Int)) (r_gPart_0 (0 : Int) (4 : Int) x7) (r_gPart_0 (4 : Int) (16 : Int) x7) (r_gPart_0 (20 : Int) (4 : Int) x7) (r_gPart_0 (24 : Int) (1 : Int) x7) == x0 && (r_gLine_1 (r_wNumber_0 x0 (1099511627776 : Int)) x1 (r_gPart_0 (0 : Int) (4 : Int) x7) (r_gPart_0 (4 : Int) (16 : Int) x7) (r_gPart_0 (20 : Int) (4 : Int) x7) (r_gPart_0 (24 : Int) (1 : Int) x7) == x1 && (r_gLine_2 (r_wNumber_0 x0 (1099511627776 : Int)) x2 (r_gPart_0 (0 : Int) (4 : Int) x7) (r_gPart_0 (4 : Int) (16 : Int) x7) (r_gPart_0 (20 : Int) (4 : Int) x7) (r_gPart_0 (24 : Int) (1 : Int) x7) == x2 && (r_gLine_3 (r_wNumber_0 x0 (1099511627776 : Int)) x3 (r_gPart_0 (0 : Int) (4 : Int) x7) (r_gPart_0 (4 : Int) (16 : Int) x7) (r_gPart_0 (20 : Int) (4 : Int) x7) (r_gPart_0 (24 : Int) (1 : Int) x7) == x3 && (r_gLine_4 (r_wNumber_0 x0 (1099511627776 : Int)) x4 (r_gPart_0 (0 : Int) (4 : Int) x7) (r_gPart_0 (4 : Int) (16 : Int) x7) (r_gPart_0 (20 : Int) (4 : Int) x7) (r_gPart_0 (24 : Int) (1 : Int) x7) == x4 && (r_gLine_5 (r_wNumber_0 x0 (1099511627776 : Int)) x5 (r_gPart_0 (0 : Int) (4 : Int) x7) (r_gPart_0 (4 : Int) (16 : Int) x7) (r_gPart_0 (20 : Int) (4 : Int) x7) (r_gPart_0 (24 : Int) (1 : Int) x7) == x5 && (r_gLine_6 (r_wNumber_0 x0 (1099511627776 : Int)) x6 (r_gPart_0 (0 : Int) (4 : Int) x7) (r_gPart_0 (4 : Int) (16 : Int) x7) (r_gPart_0 (20 : Int) (4 : Int) x7) (r_gPart_0 (24 : Int) (1 : Int) x7) == x6 && (r_gLine_7 (r_wNumber_0 x0 (1099511627776 : Int)) (r_gPart_0 (0 : Int) (4 : Int) x7) (r_gPart_0 (4 : Int) (16 : Int) x7) (r_gPart_0 (20 : Int) (4 : Int) x7) (r_gPart_0 (24 : Int) (1 : Int) x7) == x7 && true)))))))) then ((0 : Int))
  else x4)
  else 0)
  else 0)
  else 0)
  else 0
def r_gOf_5 (x0 : Int) (x1 : Int) (x2 : Int) (x3 : Int) (x4 : Int) (x5 : Int) (x6 : Int) (x7 : Int) : Int :=
  bif r_wNumber_1 x0 (1099511627776 : Int) != (0 : Int) then ((0 : Int))
  else bif ok_gPart (0 : Int) (4 : Int) x0 x1 x2 x3 x4 x5 x6 x7 then (bif ok_gPart (4 : Int) (16 : Int) x0 x1 x2 x3 x4 x5 x6 x7 then (bif ok_gPart (20 : Int) (4 : Int) x0 x1 x2 x3 x4 x5 x6 x7 then (bif ok_gPart (24 : Int) (1 : Int) x0 x1 x2 x3 x4 x5 x6 x7 then (bif r_gLine_8 (r_wNumber_0 x0 (1099511627776 : Int)) (r_gPart_0 (0 : Int) (4 : Int) x7) (r_gPart_0 (4 : Int) (16 : Int) x7) (r_gPart_0 (20 : Int) (4 : Int) x7) (r_gPart_0 (24 : Int) (1 : Int) x7) != (0 : Int) then ((0 : Int))
  else bif !(r_gLine_0 (r_wNumber_0 x0 (1099511627776 : Int)) (r_gPart_0 (0 : Int) (4 : Int) x7) (r_gPart_0 (4 : Int) (16 : Int) x7) (r_gPart_0 (20 : Int) (4 : Int) x7) (r_gPart_0 (24 : Int) (1 : Int) x7) == x0 && (r_gLine_1 (r_wNumber_0 x0 (1099511627776 : Int)) x1 (r_gPart_0 (0 : Int) (4 : Int) x7) (r_gPart_0 (4 : Int) (16 : Int) x7) (r_gPart_0 (20 : Int) (4 : Int) x7) (r_gPart_0 (24 : Int) (1 : Int) x7) == x1 && (r_gLine_2 (r_wNumber_0 x0 (1099511627776 : Int)) x2 (r_gPart_0 (0 : Int) (4 : Int) x7) (r_gPart_0 (4 : Int) (16 : Int) x7) (r_gPart_0 (20 : Int) (4 : Int) x7) (r_gPart_0 (24 : Int) (1 : Int) x7) == x2 && (r_gLine_3 (r_wNumber_0 x0 (1099511627776 : Int)) x3 (r_gPart_0 (0 : Int) (4 : Int) x7) (r_gPart_0 (4 : Int) (16 : Int) x7) (r_gPart_0 (20 : Int) (4 : Int) x7) (r_gPart_0 (24 : Int) (1 : Int) x7) == x3 && (r_gLine_4 (r_wNumber_0 x0 (1099511627776 : Int)) x4 (r_gPart_0 (0 : Int) (4 : Int) x7) (r_gPart_0 (4 : Int) (16 : Int) x7) (r_gPart_0 (20 : Int) (4 : Int) x7) (r_gPart_0 (24 : Int) (1 : Int) x7) == x4 && (r_gLine_5 (r_wNumber_0 x0 (1099511627776 : Int)) x5 (r_gPart_0 (0 : Int) (4 : Int) x7) (r_gPart_0 (4 : Int) (16 : Int) x7) (r_gPart_0 (20 : Int) (4 : Int) x7) (r_gPart_0 (24 : Int) (1 : Int) x7) == x5 && (r_gLine_6 (r_wNumber_0 x0 (1099511627776 : Int)) x6 (r_gPart_0 (0 : Int) (4 : Int) x7) (r_gPart_0 (4 : Int) (16 : Int) x7) (r_gPart_0 (20 : Int) (4 : Int) x7) (r_gPart_0 (24 : Int) (1 : Int) x7) == x6 && (r_gLine_7 (r_wNumber_0 x0 (1099511627776 : Int)) (r_gPart_0 (0 : Int) (4 : Int) x7) (r_gPart_0 (4 : Int) (16 : Int) x7) (r_gPart_0 (20 : Int) (4 : Int) x7) (r_gPart_0 (24 : Int) (1 : Int) x7) == x7 && true)))))))) then ((0 : Int))
  else x5)
  else 0)
  else 0)
  else 0)
  else 0
def r_gOf_6 (x0 : Int) (x1 : Int) (x2 : Int) (x3 : Int) (x4 : Int) (x5 : Int) (x6 : Int) (x7 : Int) : Int :=
  bif r_wNumber_1 x0 (1099511627776 : Int) != (0 : Int) then ((0 : Int))
  else bif ok_gPart (0 : Int) (4 : Int) x0 x1 x2 x3 x4 x5 x6 x7 then (bif ok_gPart (4 : Int) (16 : Int) x0 x1 x2 x3 x4 x5 x6 x7 then (bif ok_gPart (20 : Int) (4 : Int) x0 x1 x2 x3 x4 x5 x6 x7 then (bif ok_gPart (24 : Int) (1 : Int) x0 x1 x2 x3 x4 x5 x6 x7 then (bif r_gLine_8 (r_wNumber_0 x0 (1099511627776 : Int)) (r_gPart_0 (0 : Int) (4 : Int) x7) (r_gPart_0 (4 : Int) (16 : Int) x7) (r_gPart_0 (20 : Int) (4 : Int) x7) (r_gPart_0 (24 : Int) (1 : Int) x7) != (0 : Int) then ((0 : Int))
  else bif !(r_gLine_0 (r_wNumber_0 x0 (1099511627776 : Int)) (r_gPart_0 (0 : Int) (4 : Int) x7) (r_gPart_0 (4 : Int) (16 : Int) x7) (r_gPart_0 (20 : Int) (4 : Int) x7) (r_gPart_0 (24 : Int) (1 : Int) x7) == x0 && (r_gLine_1 (r_wNumber_0 x0 (1099511627776 : Int)) x1 (r_gPart_0 (0 : Int) (4 : Int) x7) (r_gPart_0 (4 : Int) (16 : Int) x7) (r_gPart_0 (20 : Int) (4 : Int) x7) (r_gPart_0 (24 : Int) (1 : Int) x7) == x1 && (r_gLine_2 (r_wNumber_0 x0 (1099511627776 : Int)) x2 (r_gPart_0 (0 : Int) (4 : Int) x7) (r_gPart_0 (4 : Int) (16 : Int) x7) (r_gPart_0 (20 : Int) (4 : Int) x7) (r_gPart_0 (24 : Int) (1 : Int) x7) == x2 && (r_gLine_3 (r_wNumber_0 x0 (1099511627776 : Int)) x3 (r_gPart_0 (0 : Int) (4 : Int) x7) (r_gPart_0 (4 : Int) (16 : Int) x7) (r_gPart_0 (20 : Int) (4 : Int) x7) (r_gPart_0 (24 : Int) (1 : Int) x7) == x3 && (r_gLine_4 (r_wNumber_0 x0 (1099511627776 : Int)) x4 (r_gPart_0 (0 : Int) (4 : Int) x7) (r_gPart_0 (4 : Int) (16 : Int) x7) (r_gPart_0 (20 : Int) (4 : Int) x7) (r_gPart_0 (24 : Int) (1 : Int) x7) == x4 && (r_gLine_5 (r_wNumber_0 x0 (1099511627776 : Int)) x5 (r_gPart_0 (0 : Int) (4 : Int) x7) (r_gPart_0 (4 : Int) (16 : Int) x7) (r_gPart_0 (20 : Int) (4 : Int) x7) (r_gPart_0 (24 : Int) (1 : Int) x7) == x5 && (r_gLine_6 (r_wNumber_0 x0 (1099511627776 : Int)) x6 (r_gPart_0 (0 : Int) (4 : Int) x7) (r_gPart_0 (4 : Int) (16 : Int) x7) (r_gPart_0 (20 : Int) (4 : Int) x7) (r_gPart_0 (24 : Int) (1 : Int) x7) == x6 && (r_gLine_7 (r_wNumber_0 x0 (1099511627776 : Int)) (r_gPart_0 (0 : Int) (4 : Int) x7) (r_gPart_0 (4 : Int) (16 : Int) x7) (r_gPart_0 (20 : Int) (4 : Int) x7) (r_gPart_0 (24 : Int) (1 : Int) x7) == x7 && true)))))))) then ((0 : Int))
  else x6)
  else 0)
  else 0)
  else 0)
  else 0
def r_gOf_7 (x0 : Int) (x1 : Int) (x2 : Int) (x3 : Int) (x4 : Int) (x5 : Int) (x6 : Int) (x7 : Int) : Int :=
  bif r_wNumber_1 x0 (1099511627776 : Int) != (0 : Int) then ((0 : Int))
  else bif ok_gPart (0 : Int) (4 : Int) x0 x1 x2 x3 x4 x5 x6 x7 then (bif ok_gPart (4 : Int) (16 : Int) x0 x1 x2 x3 x4 x5 x6 x7 then (bif ok_gPart (20 : Int) (4 : Int) x0 x1 x2 x3 x4 x5 x6 x7 then (bif ok_gPart (24 : Int) (1 : Int) x0 x1 x2 x3 x4 x5 x6 x7 then (bif r_gLine_8 (r_wNumber_0 x0 (1099511627776 : Int)) (r_gPart_0 (0 : Int) (4 : Int) x7) (r_gPart_0 (4 : Int) (16 : Int) x7) (r_gPart_0 (20 : Int) (4 : Int) x7) (r_gPart_0 (24 : Int) (1 : Int) x7) != (0 : Int) then ((0 : Int))
  else bif !(r_gLine_0 (r_wNumber_0 x0 (1099511627776 : Int)) (r_gPart_0 (0 : Int) (4 : Int) x7) (r_gPart_0 (4 : Int) (16 : Int) x7) (r_gPart_0 (20 : Int) (4 : Int) x7) (r_gPart_0 (24 : Int) (1 : Int) x7) == x0 && (r_gLine_1 (r_wNumber_0 x0 (1099511627776 : Int)) x1 (r_gPart_0 (0 : Int) (4 : Int) x7) (r_gPart_0 (4 : Int) (16 : Int) x7) (r_gPart_0 (20 : Int) (4 : Int) x7) (r_gPart_0 (24 : Int) (1 : Int) x7) == x1 && (r_gLine_2 (r_wNumber_0 x0 (1099511627776 : Int)) x2 (r_gPart_0 (0 : Int) (4 : Int) x7) (r_gPart_0 (4 : Int) (16 : Int) x7) (r_gPart_0 (20 : Int) (4 : Int) x7) (r_gPart_0 (24 : Int) (1 : Int) x7) == x2 && (r_gLine_3 (r_wNumber_0 x0 (1099511627776 : Int)) x3 (r_gPart_0 (0 : Int) (4 : Int) x7) (r_gPart_0 (4 : Int) (16 : Int) x7) (r_gPart_0 (20 : Int) (4 : Int) x7) (r_gPart_0 (24 : Int) (1 : Int) x7) == x3 && (r_gLine_4 (r_wNumber_0 x0 (1099511627776 : Int)) x4 (r_gPart_0 (0 : Int) (4 : Int) x7) (r_gPart_0 (4 : Int) (16 : Int) x7) (r_gPart_0 (20 : Int) (4 : Int) x7) (r_gPart_0 (24 : Int) (1 : Int) x7) == x4 && (r_gLine_5 (r_wNumber_0 x0 (1099511627776 : Int)) x5 (r_gPart_0 (0 : Int) (4 : Int) x7) (r_gPart_0 (4 : Int) (16 : Int) x7) (r_gPart_0 (20 : Int) (4 : Int) x7) (r_gPart_0 (24 : Int) (1 : Int) x7) == x5 && (r_gLine_6 (r_wNumber_0 x0 (1099511627776 : Int)) x6 (r_gPart_0 (0 : Int) (4 : Int) x7) (r_gPart_0 (4 : Int) (16 : Int) x7) (r_gPart_0 (20 : Int) (4 : Int) x7) (r_gPart_0 (24 : Int) (1 : Int) x7) == x6 && (r_gLine_7 (r_wNumber_0 x0 (1099511627776 : Int)) (r_gPart_0 (0 : Int) (4 : Int) x7) (r_gPart_0 (4 : Int) (16 : Int) x7) (r_gPart_0 (20 : Int) (4 : Int) x7) (r_gPart_0 (24 : Int) (1 : Int) x7) == x7 && true)))))))) then ((0 : Int))
  else r_gPart_0 (0 : Int) (4 : Int) x7)
  else 0)
  else 0)
  else 0)
  else 0
def r_gOf_8 (x0 : Int) (x1 : Int) (x2 : Int) (x3 : Int) (x4 : Int) (x5 : Int) (x6 : Int) (x7 : Int) : Int :=
  bif r_wNumber_1 x0 (1099511627776 : Int) != (0 : Int) then ((0 : Int))
  else bif ok_gPart (0 : Int) (4 : Int) x0 x1 x2 x3 x4 x5 x6 x7 then (bif ok_gPart (4 : Int) (16 : Int) x0 x1 x2 x3 x4 x5 x6 x7 then (bif ok_gPart (20 : Int) (4 : Int) x0 x1 x2 x3 x4 x5 x6 x7 then (bif ok_gPart (24 : Int) (1 : Int) x0 x1 x2 x3 x4 x5 x6 x7 then (bif r_gLine_8 (r_wNumber_0 x0 (1099511627776 : Int)) (r_gPart_0 (0 : Int) (4 : Int) x7) (r_gPart_0 (4 : Int) (16 : Int) x7) (r_gPart_0 (20 : Int) (4 : Int) x7) (r_gPart_0 (24 : Int) (1 : Int) x7) != (0 : Int) then ((0 : Int))
  else bif !(r_gLine_0 (r_wNumber_0 x0 (1099511627776 : Int)) (r_gPart_0 (0 : Int) (4 : Int) x7) (r_gPart_0 (4 : Int) (16 : Int) x7) (r_gPart_0 (20 : Int) (4 : Int) x7) (r_gPart_0 (24 : Int) (1 : Int) x7) == x0 && (r_gLine_1 (r_wNumber_0 x0 (1099511627776 : Int)) x1 (r_gPart_0 (0 : Int) (4 : Int) x7) (r_gPart_0 (4 : Int) (16 : Int) x7) (r_gPart_0 (20 : Int) (4 : Int) x7) (r_gPart_0 (24 : Int) (1 : Int) x7) == x1 && (r_gLine_2 (r_wNumber_0 x0 (1099511627776 : Int)) x2 (r_gPart_0 (0 : Int) (4 : Int) x7) (r_gPart_0 (4 : Int) (16 : Int) x7) (r_gPart_0 (20 : Int) (4 : Int) x7) (r_gPart_0 (24 : Int) (1 : Int) x7) == x2 && (r_gLine_3 (r_wNumber_0 x0 (1099511627776 : Int)) x3 (r_gPart_0 (0 : Int) (4 : Int) x7) (r_gPart_0 (4 : Int) (16 : Int) x7) (r_gPart_0 (20 : Int) (4 : Int) x7) (r_gPart_0 (24 : Int) (1 : Int) x7) == x3 && (r_gLine_4 (r_wNumber_0 x0 (1099511627776 : Int)) x4 (r_gPart_0 (0 : Int) (4 : Int) x7) (r_gPart_0 (4 : Int) (16 : Int) x7) (r_gPart_0 (20 : Int) (4 : Int) x7) (r_gPart_0 (24 : Int) (1 : Int) x7) == x4 && (r_gLine_5 (r_wNumber_0 x0 (1099511627776 : Int)) x5 (r_gPart_0 (0 : Int) (4 : Int) x7) (r_gPart_0 (4 : Int) (16 : Int) x7) (r_gPart_0 (20 : Int) (4 : Int) x7) (r_gPart_0 (24 : Int) (1 : Int) x7) == x5 && (r_gLine_6 (r_wNumber_0 x0 (1099511627776 : Int)) x6 (r_gPart_0 (0 : Int) (4 : Int) x7) (r_gPart_0 (4 : Int) (16 : Int) x7) (r_gPart_0 (20 : Int) (4 : Int) x7) (r_gPart_0 (24 : Int) (1 : Int) x7) == x6 && (r_gLine_7 (r_wNumber_0 x0 (1099511627776 : Int)) (r_gPart_0 (0 : Int) (4 : Int) x7) (r_gPart_0 (4 : Int) (16 : Int) x7) (r_gPart_0 (20 : Int) (4 : Int) x7) (r_gPart_0 (24 : Int) (1 : Int) x7) == x7 && true)))))))) then ((0 : Int))
  else r_gPart_0 (4 : Int) (16 : Int) x7)
  else 0)
  else 0)
  else 0)
  else 0
def r_gOf_9 (x0 : Int) (x1 : Int) (x2 : Int) (x3 : Int) (x4 : Int) (x5 : Int) (x6 : Int) (x7 : Int) : Int :=
  bif r_wNumber_1 x0 (1099511627776 : Int) != (0 : Int) then ((0 : Int))
  else bif ok_gPart (0 : Int) (4 : Int) x0 x1 x2 x3 x4 x5 x6 x7 then (bif ok_gPart (4 : Int) (16 : Int) x0 x1 x2 x3 x4 x5 x6 x7 then (bif ok_gPart (20 : Int) (4 : Int) x0 x1 x2 x3 x4 x5 x6 x7 then (bif ok_gPart (24 : Int) (1 : Int) x0 x1 x2 x3 x4 x5 x6 x7 then (bif r_gLine_8 (r_wNumber_0 x0 (1099511627776 : Int)) (r_gPart_0 (0 : Int) (4 : Int) x7) (r_gPart_0 (4 : Int) (16 : Int) x7) (r_gPart_0 (20 : Int) (4 : Int) x7) (r_gPart_0 (24 : Int) (1 : Int) x7) != (0 : Int) then ((0 : Int))
  else bif !(r_gLine_0 (r_wNumber_0 x0 (1099511627776 : Int)) (r_gPart_0 (0 : Int) (4 : Int) x7) (r_gPart_0 (4 : Int) (16 : Int) x7) (r_gPart_0 (20 : Int) (4 : Int) x7) (r_gPart_0 (24 : Int) (1 : Int) x7) == x0 && (r_gLine_1 (r_wNumber_0 x0 (1099511627776 : Int)) x1 (r_gPart_0 (0 : Int) (4 : Int) x7) (r_gPart_0 (4 : Int) (16 : Int) x7) (r_gPart_0 (20 : Int) (4 : Int) x7) (r_gPart_0 (24 : Int) (1 : Int) x7) == x1 && (r_gLine_2 (r_wNumber_0 x0 (1099511627776 : Int)) x2 (r_gPart_0 (0 : Int) (4 : Int) x7) (r_gPart_0 (4 : Int) (16 : Int) x7) (r_gPart_0 (20 : Int) (4 : Int) x7) (r_gPart_0 (24 : Int) (1 : Int) x7) == x2 && (r_gLine_3 (r_wNumber_0 x0 (1099511627776 : Int)) x3 (r_gPart_0 (0 : Int) (4 : Int) x7) (r_gPart_0 (4 : Int) (16 : Int) x7) (r_gPart_0 (20 : Int) (4 : Int) x7) (r_gPart_0 (24 : Int) (1 : Int) x7) == x3 && (r_gLine_4 (r_wNumber_0 x0 (1099511627776 : Int)) x4 (r_gPart_0 (0 : Int) (4 : Int) x7) (r_gPart_0 (4 : Int) (16 : Int) x7) (r_gPart_0 (20 : Int) (4 : Int) x7) (r_gPart_0 (24 : Int) (1 : Int) x7) == x4 && (r_gLine_5 (r_wNumber_0 x0 (1099511627776 : Int)) x5 (r_gPart_0 (0 : Int) (4 : Int) x7) (r_gPart_0 (4 : Int) (16 : Int) x7) (r_gPart_0 (20 : Int) (4 : Int) x7) (r_gPart_0 (24 : Int) (1 : Int) x7) == x5 && (r_gLine_6 (r_wNumber_0 x0 (1099511627776 : Int)) x6 (r_gPart_0 (0 : Int) (4 : Int) x7) (r_gPart_0 (4 : Int) (16 : Int) x7) (r_gPart_0 (20 : Int) (4 : Int) x7) (r_gPart_0 (24 : Int) (1 : Int) x7) == x6 && (r_gLine_7 (r_wNumber_0 x0 (1099511627776 : Int)) (r_gPart_0 (0 : Int) (4 : Int) x7) (r_gPart_0 (4 : Int) (16 : Int) x7) (r_gPart_0 (20 : Int) (4 : Int) x7) (r_gPart_0 (24 : Int) (1 : Int) x7) == x7 && true)))))))) then ((0 : Int))
  else r_gPart_0 (20 : Int) (4 : Int) x7)
  else 0)
  else 0)
  else 0)
  else 0
def r_gOf_10 (x0 : Int) (x1 : Int) (x2 : Int) (x3 : Int) (x4 : Int) (x5 : Int) (x6 : Int) (x7 : Int) : Int :=
  bif r_wNumber_1 x0 (1099511627776 : Int) != (0 : Int) then ((0 : Int))
  else bif ok_gPart (0 : Int) (4 : Int) x0 x1 x2 x3 x4 x5 x6 x7 then (bif ok_gPart (4 : Int) (16 : Int) x0 x1 x2 x3 x4 x5 x6 x7 then (bif ok_gPart (20 : Int) (4 : Int) x0 x1 x2 x3 x4 x5 x6 x7 then (bif ok_gPart (24 : Int) (1 : Int) x0 x1 x2 x3 x4 x5 x6 x7 then (bif r_gLine_8 (r_wNumber_0 x0 (1099511627776 : Int)) (r_gPart_0 (0 : Int) (4 : Int) x7) (r_gPart_0 (4 : Int) (16 : Int) x7) (r_gPart_0 (20 : Int) (4 : Int) x7) (r_gPart_0 (24 : Int) (1 : Int) x7) != (0 : Int) then ((0 : Int))
  else bif !(r_gLine_0 (r_wNumber_0 x0 (1099511627776 : Int)) (r_gPart_0 (0 : Int) (4 : Int) x7) (r_gPart_0 (4 : Int) (16 : Int) x7) (r_gPart_0 (20 : Int) (4 : Int) x7) (r_gPart_0 (24 : Int) (1 : Int) x7) == x0 && (r_gLine_1 (r_wNumber_0 x0 (1099511627776 : Int)) x1 (r_gPart_0 (0 : Int) (4 : Int) x7) (r_gPart_0 (4 : Int) (16 : Int) x7) (r_gPart_0 (20 : Int) (4 : Int) x7) (r_gPart_0 (24 : Int) (1 : Int) x7) == x1 && (r_gLine_2 (r_wNumber_0 x0 (1099511627776 : Int)) x2 (r_gPart_0 (0 : Int) (4 : Int) x7) (r_gPart_0 (4 : Int) (16 : Int) x7) (r_gPart_0 (20 : Int) (4 : Int) x7) (r_gPart_0 (24 : Int) (1 : Int) x7) == x2 && (r_gLine_3 (r_wNumber_0 x0 (1099511627776 : Int)) x3 (r_gPart_0 (0 : Int) (4 : Int) x7) (r_gPart_0 (4 : Int) (16 : Int) x7) (r_gPart_0 (20 : Int) (4 : Int) x7) (r_gPart_0 (24 : Int) (1 : Int) x7) == x3 && (r_gLine_4 (r_wNumber_0 x0 (1099511627776 : Int)) x4 (r_gPart_0 (0 : Int) (4 : Int) x7) (r_gPart_0 (4 : Int) (16 : Int) x7) (r_gPart_0 (20 : Int) (4 : Int) x7) (r_gPart_0 (24 : Int) (1 : Int) x7) == x4 && (r_gLine_5 (r_wNumber_0 x0 (1099511627776 : Int)) x5 (r_gPart_0 (0 : Int) (4 : Int) x7) (r_gPart_0 (4 : Int) (16 : Int) x7) (r_gPart_0 (20 : Int) (4 : Int) x7) (r_gPart_0 (24 : Int) (1 : Int) x7) == x5 && (r_gLine_6 (r_wNumber_0 x0 (1099511627776 : Int)) x6 (r_gPart_0 (0 : Int) (4 : Int) x7) (r_gPart_0 (4 : Int) (16 : Int) x7) (r_gPart_0 (20 : Int) (4 : Int) x7) (r_gPart_0 (24 : Int) (1 : Int) x7) == x6 && (r_gLine_7 (r_wNumber_0 x0 (1099511627776 : Int)) (r_gPart_0 (0 : Int) (4 : Int) x7) (r_gPart_0 (4 : Int) (16 : Int) x7) (r_gPart_0 (20 : Int) (4 : Int) x7) (r_gPart_0 (24 : Int) (1 : Int) x7) == x7 && true)))))))) then ((0 : Int))
  else r_gPart_0 (24 : Int) (1 : Int) x7)
  else 0)
  else 0)
  else 0)
  else 0
def r_gOf_11 (x0 : Int) (x1 : Int) (x2 : Int) (x3 : Int) (x4 : Int) (x5 : Int) (x6 : Int) (x7 : Int) : Bool :=
  bif r_wNumber_1 x0 (1099511627776 : Int) != (0 : Int) then (false)
  else bif ok_gPart (0 : Int) (4 : Int) x0 x1 x2 x3 x4 x5 x6 x7 then (bif ok_gPart (4 : Int) (16 : Int) x0 x1 x2 x3 x4 x5 x6 x7 then (bif ok_gPart (20 : Int) (4 : Int) x0 x1 x2 x3 x4 x5 x6 x7 then (bif ok_gPart (24 : Int) (1 : Int) x0 x1 x2 x3 x4 x5 x6 x7 then (bif r_gLine_8 (r_wNumber_0 x0 (1099511627776 : Int)) (r_gPart_0 (0 : Int) (4 : Int) x7) (r_gPart_0 (4 : Int) (16 : Int) x7) (r_gPart_0 (20 : Int) (4 : Int) x7) (r_gPart_0 (24 : Int) (1 : Int) x7) != (0 : Int) then (false)
  else bif !(r_gLine_0 (r_wNumber_0 x0 (1099511627776 : Int)) (r_gPart_0 (0 : Int) (4 : Int) x7) (r_gPart_0 (4 : Int) (16 : Int) x7) (r_gPart_0 (20 : Int) (4 : Int) x7) (r_gPart_0 (24 : Int) (1 : Int) x7) == x0 && (r_gLine_1 (r_wNumber_0 x0 (1099511627776 : Int)) x1 (r_gPart_0 (0 : Int) (4 : Int) x7) (r_gPart_0 (4 : Int) (16 : Int) x7) (r_gPart_0 (20 : Int) (4 : Int) x7) (r_gPart_0 (24 : Int) (1 : Int) x7) == x1 && (r_gLine_2 (r_wNumber_0 x0 (1099511627776 : Int)) x2 (r_gPart_0 (0 : Int) (4 : Int) x7) (r_gPart_0 (4 : Int) (16 : Int) x7) (r_gPart_0 (20 : Int) (4 : Int) x7) (r_gPart_0 (24 : Int) (1 : Int) x7) == x2 && (r_gLine_3 (r_wNumber_0 x0 (1099511627776 : Int)) x3 (r_gPart_0 (0 : Int) (4 : Int) x7) (r_gPart_0 (4 : Int) (16 : Int) x7) (r_gPart_0 (20 : Int) (4 : Int) x7) (r_gPart_0 (24 : Int) (1 : Int) x7) == x3 && (r_gLine_4 (r_wNumber_0 x0 (1099511627776 : Int)) x4 (r_gPart_0 (0 : Int) (4 : Int) x7) (r_gPart_0 (4 : Int) (16 : Int) x7) (r_gPart_0 (20 : Int) (4 : Int) x7) (r_gPart_0 (24 : Int) (1 : Int) x7) == x4 && (r_gLine_5 (r_wNumber_0 x0 (1099511627776 : Int)) x5 (r_gPart_0 (0 : Int) (4 : Int) x7) (r_gPart_0 (4 : Int) (16 : Int) x7) (r_gPart_0 (20 : Int) (4 : Int) x7) (r_gPart_0 (24 : Int) (1 : Int) x7) == x5 && (r_gLine_6 (r_wNumber_0 x0 (1099511627776 : Int)) x6 (r_gPart_0 (0 : Int) (4 : Int) x7) (r_gPart_0 (4 : Int) (16 : Int) x7) (r_gPart_0 (20 : Int) (4 : Int) x7) (r_gPart_0 (24 : Int) (1 : Int) x7) == x6 && (r_gLine_7 (r_wNumber_0 x0 (1099511627776 : Int)) (r_gPart_0 (0 : Int) (4 : Int) x7) (r_gPart_0 (4 : Int) (16 : Int) x7) (r_gPart_0 (20 : Int) (4 : Int) x7) (r_gPart_0 (24 : Int) (1 : Int) x7) == x7 && true)))))))) then (false)
  else true)
  else false)
  else false)
  else false)
  else false
def ok_gOf (x0 : Int) (x1 : Int) (x2 : Int) (x3 : Int) (x4 : Int) (x5 : Int) (x6 : Int) (x7 : Int) : Bool :=
  bif r_wNumber_1 x0 (1099511627776 : Int) != (0 : Int) then (true)
  else bif ok_gPart (0 : Int) (4 : Int) x0 x1 x2 x3 x4 x5 x6 x7 then (bif ok_gPart (4 : Int) (16 : Int) x0 x1 x2 x3 x4 x5 x6 x7 then (bif ok_gPart (20 : Int) (4 : Int) x0 x1 x2 x3 x4 x5 x6 x7 then (bif ok_gPart (24 : Int) (1 : Int) x0 x1 x2 x3 x4 x5 x6 x7 then (bif r_gLine_8 (r_wNumber_0 x0 (1099511627776 : Int)) (r_gPart_0 (0 : Int) (4 : Int) x7) (r_gPart_0 (4 : Int) (16 : Int) x7) (r_gPart_0 (20 : Int) (4 : Int) x7) (r_gPart_0 (24 : Int) (1 : Int) x7) != (0 : Int) then (true)
  else bif !(r_gLine_0 (r_wNumber_0 x0 (1099511627776 : Int)) (r_gPart_0 (0 : Int) (4 : Int) x7) (r_gPart_0 (4 : Int) (16 : Int) x7) (r_gPart_0 (20 : Int) (4 : Int) x7) (r_gPart_0 (24 : Int) (1 : Int) x7) == x0 && (r_gLine_1 (r_wNumber_0 x0 (1099511627776 : Int)) x1 (r_gPart_0 (0 : Int) (4 : Int) x7) (r_gPart_0 (4 : Int) (16 : Int) x7) (r_gPart_0 (20 : Int) (4 : Int) x7) (r_gPart_0 (24 : Int) (1 : Int) x7) == x1 && (r_gLine_2 (r_wNumber_0 x0 (1099511627776 : Int)) x2 (r_gPart_0 (0 : Int) (4 : Int) x7) (r_gPart_0 (4 : Int) (16 : Int) x7) (r_gPart_0 (20 : Int) (4 : Int) x7) (r_gPart_0 (24 : Int) (1 : Int) x7) == x2 && (r_gLine_3 (r_wNumber_0 x0 (1099511627776 : Int)) x3 (r_gPart_0 (0 : Int) (4 : Int) x7) (r_gPart_0 (4 : Int) (16 : Int) x7) (r_gPart_0 (20 : Int) (4 : Int) x7) (r_gPart_0 (24 : Int) (1 : Int) x7) == x3 && (r_gLine_4 (r_wNumber_0 x0 (1099511627776 : Int)) x4 (r_gPart_0 (0 : Int) (4 : Int) x7) (r_gPart_0 (4 : Int) (16 : Int) x7) (r_gPart_0 (20 : Int) (4 : Int) x7) (r_gPart_0 (24 : Int) (1 : Int) x7) == x4 && (r_gLine_5 (r_wNumber_0 x0 (1099511627776 : Int)) x5 (r_gPart_0 (0 : Int) (4 : Int) x7) (r_gPart_0 (4 : Int) (16 : Int) x7) (r_gPart_0 (20 : Int) (4 : Int) x7) (r_gPart_0 (24 : Int) (1 : Int) x7) == x5 && (r_gLine_6 (r_wNumber_0 x0 (1099511627776 : Int)) x6 (r_gPart_0 (0 : Int) (4 : Int) x7) (r_gPart_0 (4 : Int) (16 : Int) x7) (r_gPart_0 (20 : Int) (4 : Int) x7) (r_gPart_0 (24 : Int) (1 : Int) x7) == x6 && (r_gLine_7 (r_wNumber_0 x0 (1099511627776 : Int)) (r_gPart_0 (0 : Int) (4 : Int) x7) (r_gPart_0 (4 : Int) (16 : Int) x7) (r_gPart_0 (20 : Int) (4 : Int) x7) (r_gPart_0 (24 : Int) (1 : Int) x7) == x7 && true)))))))) then (true)
  else true)
  else false)
  else false)
  else false)
  else false
def F_gOf : List At → Tr (List At) := fun l => .br 0 (ok_gOf (aI l 0) (aI l 1) (aI l 2) (aI l 3) (aI l 4) (aI l 5) (aI l 6) (aI l 7)) (.ok [.i (r_gOf_0 (aI l 0) (aI l 1) (aI l 2) (aI l 3) (aI l 4) (aI l 5) (aI l 6) (aI l 7)), .i (r_gOf_1 (aI l 0) (aI l 1) (aI l 2) (aI l 3) (aI l 4) (aI l 5) (aI l 6) (aI l 7)), .i (r_gOf_2 (aI l 0) (aI l 1) (aI l 2) (aI l 3) (aI l 4) (aI l 5) (aI l 6) (aI l 7)), .i (r_gOf_3 (aI l 0) (aI l 1) (aI l 2) (aI l 3) (aI l 4) (aI l 5) (aI l 6) (aI l 7)), .i (r_gOf_4 (aI l 0) (aI l 1) (aI l 2) (aI l 3) (aI l 4) (aI l 5) (aI l 6) (aI l 7)), .i (r_gOf_5 (aI l 0) (aI l 1) (aI l 2) (aI l 3) (aI l 4) (aI l 5) (aI l 6) (aI l 7)), .i (r_gOf_6 (aI l 0) (aI l 1) (aI l 2) (aI l 3) (aI l 4) (aI l 5) (aI l 6) (aI l 7)), .i (r_gOf_7 (aI l 0) (aI l 1) (aI l 2) (aI l 3) (aI l 4) (aI l 5) (aI l 6) (aI l 7)), .i (r_gOf_8 (aI l 0) (aI l 1) (aI l 2) (aI l 3) (aI l 4) (aI l 5) (aI l 6) (aI l 7)), .i (r_gOf_9 (aI l 0) (aI l 1) (aI l 2) (aI l 3) (aI l 4) (aI l 5) (aI l 6) (aI l 7)), .i (r_gOf_10 (aI l 0) (aI l 1) (aI l 2) (aI l 3) (aI l 4) (aI l 5) (aI l 6) (aI l 7)), .b (r_gOf_11 (aI l 0) (aI l 1) (aI l 2) (aI l 3) (aI l 4) (aI l 5) (aI l 6) (aI l 7))]) .no
theorem s_gOf : SpecF Try.prog 10 (.pure (locP ish_gOf osh_gOf F_gOf)) :=
  spec_locP (sy := y_gOf) (fuel := 100) (Lp := noLoops) o_gPart mixed ⟨Try.func10, by kernel_rfl, by kernel_rfl⟩ ish_gOf osh_gOf rfl (noLoops_ok _) (hT_merged [.i, .i, .i, .i, .i, .i, .i, .i, .i, .i, .i, .b] e_gOf (fun l => by kernel_rfl) (fun l => by kernel_rfl))
def Γ_gOf : Specs := upd Γ_gPart 10 (.pure (locP ish_gOf osh_gOf F_gOf))
theorem o_gOf : SpecOK Try.prog Γ_gOf := SpecOK.upd o_gPart s_gOf

end Go.Proofs.Ytpllgemflpnioaa.G

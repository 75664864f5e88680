/-
  Calls of closures: all of them only read here (the first law, which nothing calls, stands for the flag).
-/
import Derived.Test.YtgohhgkonbenbaaRows
import Derived.Test.YtgohhgkonbenbaaAn5ToAnR
import Derived.Test.YtgohhgkonbenbaaAmEToAn4
import Derived.KernelRfl
section
namespace Go.Proofs.Ytgohhgkonbenbaa.G
open Go Go.AM Go.Proofs

theorem mixed : Try.prog.follows .mixedOrders = true := by kernel_rfl
def Γ_dyn : Specs := upd noSpecs 3 (.read fun _ _ => .no)
theorem s_dyn : SpecF Try.prog 3 (.read fun _ _ => .no) := by
  have h : fnOk Try.prog 3 Try.f3 := ⟨Try.func3, by kernel_rfl, by kernel_rfl⟩
  refine .inr ⟨⟨Try.f3, h⟩, fun φ H w targs args tv H' happ _ _ => ?_, fun _ _ _ _ h => by simp [Tr.val] at h⟩
  simp [Spec.app, Tr.val_bind, Tr.val] at happ
theorem o_dyn : SpecOK Try.prog Γ_dyn := SpecOK.upd noSpecs_ok s_dyn
end Go.Proofs.Ytgohhgkonbenbaa.G
end

/-
  What functions of the seat compute, printed by a program from the explorer.
-/
section
namespace Go.Proofs.Ytgohhgkonbenbaa.G
open Go Go.AM Go.Proofs
/-! ### wIs_ -/

def ish_wIs_ : FSh := ⟨[.v false [.k (.n .i64)], .v false [.k (.n .i64)]], []⟩
def osh_wIs_ : FSh := ⟨[.v false [.k .b]], []⟩
def T_wIs_ (x0 : Int) (x1 : Int) : Tr (List At) :=
 .br 7 (decide (x0 ≥ (0 : Int)))
 (.br 11 (decide (x0 < (64 : Int)))
 (.br 15 (decide (x1 ≥ (1 : Int)))
 (.ok [(.b (decide (x1 ≤ IntKind.wrap IntKind.i64 ((64 : Int) - x0))))])
 (.ok [(.b (false))]))
 (.ok [(.b (false))]))
 (.ok [(.b (false))])
def y_wIs_ : Nat → Option Nat := (syOf3 [7, 11, 15] [] [])
def TL_wIs_ (l : List At) : Tr (List At) := T_wIs_ (aI l 0) (aI l 1)
theorem e_wIs_ (l : List At) : (call Try.prog Γ_dyn y_wIs_ noLoops 100 Try.f22 (mkV ish_wIs_ l) (mkH ish_wIs_ l)).bind (leafO 0 osh_wIs_) = TL_wIs_ l := by kernel_rfl
def r_wIs__0 (x0 : Int) (x1 : Int) : Bool :=
  bif decide (x0 ≥ (0 : Int)) then (bif decide (x0 < (64 : Int)) then (bif decide (x1 ≥ (1 : Int)) then (decide (x1 ≤ IntKind.wrap IntKind.i64 ((64 : Int) - x0)))
  else false)
  else false)
  else false
def F_wIs_ : List At → Tr (List At) := fun l => .ok [.b (r_wIs__0 (aI l 0) (aI l 1))]
theorem s_wIs_ : SpecF Try.prog 22 (.pure (locP ish_wIs_ osh_wIs_ F_wIs_)) :=
  spec_locP (sy := y_wIs_) (fuel := 100) (Lp := noLoops) o_dyn mixed ⟨Try.func22, by kernel_rfl, by kernel_rfl⟩ ish_wIs_ osh_wIs_ rfl (noLoops_ok _) (hT_merged [.b] e_wIs_ (fun l => by kernel_rfl) (fun l => by kernel_rfl))
def Γ_wIs_ : Specs := upd Γ_dyn 22 (.pure (locP ish_wIs_ osh_wIs_ F_wIs_))
theorem o_wIs_ : SpecOK Try.prog Γ_wIs_ := SpecOK.upd o_dyn s_wIs_

/-! ### wMask_ -/

def ish_wMask_ : FSh := ⟨[.v false [.k (.n .i64)]], []⟩
def osh_wMask_ : FSh := ⟨[.v false [.k (.n .u64)]], []⟩
def T_wMask_ (x0 : Int) : Tr (List At) :=
 .br 5 (decide ((0 : Int) ≤ IntKind.wrap IntKind.i64 ((64 : Int) - x0)))
 (.ok [(.i (Int.fdiv (18446744073709551615 : Int) ((2 : Int) ^ shiftN IntKind.u64 (IntKind.wrap IntKind.i64 ((64 : Int) - x0)))))])
 (.no)
def y_wMask_ : Nat → Option Nat := (syOf3 [5] [] [])
def TL_wMask_ (l : List At) : Tr (List At) := T_wMask_ (aI l 0)
theorem e_wMask_ (l : List At) : (call Try.prog Γ_wIs_ y_wMask_ noLoops 100 Try.f23 (mkV ish_wMask_ l) (mkH ish_wMask_ l)).bind (leafO 0 osh_wMask_) = TL_wMask_ l := by kernel_rfl
def r_wMask__0 (x0 : Int) : Int :=
  bif decide ((0 : Int) ≤ IntKind.wrap IntKind.i64 ((64 : Int) - x0)) then (Int.fdiv (18446744073709551615 : Int) ((2 : Int) ^ shiftN IntKind.u64 (IntKind.wrap IntKind.i64 ((64 : Int) - x0))))
  else 0
def ok_wMask_ (x0 : Int) : Bool :=
  bif decide ((0 : Int) ≤ IntKind.wrap IntKind.i64 ((64 : Int) - x0)) then (true)
  else false
def F_wMask_ : List At → Tr (List At) := fun l => .br 0 (ok_wMask_ (aI l 0)) (.ok [.i (r_wMask__0 (aI l 0))]) .no
theorem s_wMask_ : SpecF Try.prog 23 (.pure (locP ish_wMask_ osh_wMask_ F_wMask_)) :=
  spec_locP (sy := y_wMask_) (fuel := 100) (Lp := noLoops) o_wIs_ mixed ⟨Try.func23, by kernel_rfl, by kernel_rfl⟩ ish_wMask_ osh_wMask_ rfl (noLoops_ok _) (hT_merged [.i] e_wMask_ (fun l => by kernel_rfl) (fun l => by kernel_rfl))
def Γ_wMask_ : Specs := upd Γ_wIs_ 23 (.pure (locP ish_wMask_ osh_wMask_ F_wMask_))
theorem o_wMask_ : SpecOK Try.prog Γ_wMask_ := SpecOK.upd o_wIs_ s_wMask_

/-! ### wField_ -/

def ish_wField_ : FSh := ⟨[.v false [.k (.n .u64)], .v false [.k (.n .i64)], .v false [.k (.n .i64)]], []⟩
def osh_wField_ : FSh := ⟨[.v false [.k (.n .u64)]], []⟩
def T_wField_ (x0 : Int) (x1 : Int) (x2 : Int) : Tr (List At) :=
 .br 10 (!r_wIs__0 x1 x2)
 (.ok [(.i ((0 : Int)))])
 (.br 13 (decide ((0 : Int) ≤ x1))
 (.br 0 (ok_wMask_ x2)
 (.ok [(.i (bits BinOp.and IntKind.u64 (Int.fdiv x0 ((2 : Int) ^ shiftN IntKind.u64 x1)) (r_wMask__0 x2)))])
 (.no))
 (.no))
def y_wField_ : Nat → Option Nat := (syOf3 [10, 13] [] [])
def TL_wField_ (l : List At) : Tr (List At) := T_wField_ (aI l 0) (aI l 1) (aI l 2)
theorem e_wField_ (l : List At) : (call Try.prog Γ_wMask_ y_wField_ noLoops 100 Try.f14 (mkV ish_wField_ l) (mkH ish_wField_ l)).bind (leafO 0 osh_wField_) = TL_wField_ l := by kernel_rfl
def r_wField__0 (x0 : Int) (x1 : Int) (x2 : Int) : Int :=
  bif !r_wIs__0 x1 x2 then ((0 : Int))
  else bif decide ((0 : Int) ≤ x1) then (bif ok_wMask_ x2 then (bits BinOp.and IntKind.u64 (Int.fdiv x0 ((2 : Int) ^ shiftN IntKind.u64 x1)) (r_wMask__0 x2))
  else 0)
  else 0
def ok_wField_ (x0 : Int) (x1 : Int) (x2 : Int) : Bool :=
  bif !r_wIs__0 x1 x2 then (true)
  else bif decide ((0 : Int) ≤ x1) then (bif ok_wMask_ x2 then (true)
  else false)
  else false
def F_wField_ : List At → Tr (List At) := fun l => .br 0 (ok_wField_ (aI l 0) (aI l 1) (aI l 2)) (.ok [.i (r_wField__0 (aI l 0) (aI l 1) (aI l 2))]) .no
theorem s_wField_ : SpecF Try.prog 14 (.pure (locP ish_wField_ osh_wField_ F_wField_)) :=
  spec_locP (sy := y_wField_) (fuel := 100) (Lp := noLoops) o_wMask_ mixed ⟨Try.func14, by kernel_rfl, by kernel_rfl⟩ ish_wField_ osh_wField_ rfl (noLoops_ok _) (hT_merged [.i] e_wField_ (fun l => by kernel_rfl) (fun l => by kernel_rfl))
def Γ_wField_ : Specs := upd Γ_wMask_ 14 (.pure (locP ish_wField_ osh_wField_ F_wField_))
theorem o_wField_ : SpecOK Try.prog Γ_wField_ := SpecOK.upd o_wMask_ s_wField_

/-! ### wNumber -/

def ish_wNumber : FSh := ⟨[.v false [.k (.n .u64)], .v false [.k (.n .i64)]], []⟩
def osh_wNumber : FSh := ⟨[.tup [(false, [.k (.n .i64)]), (false, [.k (.n .i64)])]], []⟩
def T_wNumber (x0 : Int) (x1 : Int) : Tr (List At) :=
 .br 8 (decide (x1 < (0 : Int)))
 (.ok [(.i ((0 : Int))), (.i ((2 : Int)))])
 (.br 13 (decide (x0 > IntKind.wrap IntKind.u64 x1))
 (.ok [(.i ((0 : Int))), (.i ((2 : Int)))])
 (.ok [(.i (IntKind.wrap IntKind.i64 x0)), (.i ((0 : Int)))]))
def y_wNumber : Nat → Option Nat := (syOf3 [8, 13] [] [])
def TL_wNumber (l : List At) : Tr (List At) := T_wNumber (aI l 0) (aI l 1)
theorem e_wNumber (l : List At) : (call Try.prog Γ_wField_ y_wNumber noLoops 100 Try.f16 (mkV ish_wNumber l) (mkH ish_wNumber l)).bind (leafO 0 osh_wNumber) = TL_wNumber l := by kernel_rfl
def r_wNumber_0 (x0 : Int) (x1 : Int) : Int :=
  bif decide (x1 < (0 : Int)) then ((0 : Int))
  else bif decide (x0 > IntKind.wrap IntKind.u64 x1) then ((0 : Int))
  else IntKind.wrap IntKind.i64 x0
def r_wNumber_1 (x0 : Int) (x1 : Int) : Int :=
  bif decide (x1 < (0 : Int)) then ((2 : Int))
  else bif decide (x0 > IntKind.wrap IntKind.u64 x1) then ((2 : Int))
  else (0 : Int)
def F_wNumber : List At → Tr (List At) := fun l => .ok [.i (r_wNumber_0 (aI l 0) (aI l 1)), .i (r_wNumber_1 (aI l 0) (aI l 1))]
theorem s_wNumber : SpecF Try.prog 16 (.pure (locP ish_wNumber osh_wNumber F_wNumber)) :=
  spec_locP (sy := y_wNumber) (fuel := 100) (Lp := noLoops) o_wField_ mixed ⟨Try.func16, by kernel_rfl, by kernel_rfl⟩ ish_wNumber osh_wNumber rfl (noLoops_ok _) (hT_merged [.i, .i] e_wNumber (fun l => by kernel_rfl) (fun l => by kernel_rfl))
def Γ_wNumber : Specs := upd Γ_wField_ 16 (.pure (locP ish_wNumber osh_wNumber F_wNumber))
theorem o_wNumber : SpecOK Try.prog Γ_wNumber := SpecOK.upd o_wField_ s_wNumber

/-! ### wWith -/

def ish_wWith : FSh := ⟨[.v false [.k (.n .u64)], .v false [.k (.n .i64)], .v false [.k (.n .i64)], .v false [.k (.n .u64)]], []⟩
def osh_wWith : FSh := ⟨[.tup [(false, [.k (.n .u64)]), (false, [.k (.n .i64)])]], []⟩
def T_wWith (x0 : Int) (x1 : Int) (x2 : Int) (x3 : Int) : Tr (List At) :=
 .br 10 (!r_wIs__0 x1 x2)
 (.ok [(.i ((0 : Int))), (.i ((1 : Int)))])
 (.br 0 (ok_wMask_ x2)
 (.br 15 (bits BinOp.andNot IntKind.u64 x3 (r_wMask__0 x2) != (0 : Int))
 (.ok [(.i ((0 : Int))), (.i ((2 : Int)))])
 (.br 0 (ok_wMask_ x2)
 (.br 25 (decide ((0 : Int) ≤ x1))
 (.br 29 (decide ((0 : Int) ≤ x1))
 (.ok [(.i (bits BinOp.or IntKind.u64 (bits BinOp.andNot IntKind.u64 x0 (IntKind.wrap IntKind.u64 (r_wMask__0 x2 * (2 : Int) ^ shiftN IntKind.u64 x1))) (IntKind.wrap IntKind.u64 (x3 * (2 : Int) ^ shiftN IntKind.u64 x1)))), (.i ((0 : Int)))])
 (.no))
 (.no))
 (.no)))
 (.no))
def y_wWith : Nat → Option Nat := (syOf3 [10, 15, 25, 29] [] [])
def TL_wWith (l : List At) : Tr (List At) := T_wWith (aI l 0) (aI l 1) (aI l 2) (aI l 3)
theorem e_wWith (l : List At) : (call Try.prog Γ_wNumber y_wWith noLoops 100 Try.f12 (mkV ish_wWith l) (mkH ish_wWith l)).bind (leafO 0 osh_wWith) = TL_wWith l := by kernel_rfl
def r_wWith_0 (x0 : Int) (x1 : Int) (x2 : Int) (x3 : Int) : Int :=
  bif !r_wIs__0 x1 x2 then ((0 : Int))
  else bif ok_wMask_ x2 then (bif bits BinOp.andNot IntKind.u64 x3 (r_wMask__0 x2) != (0 : Int) then ((0 : Int))
  else bif ok_wMask_ x2 then (bif decide ((0 : Int) ≤ x1) then (bif decide ((0 : Int) ≤ x1) then (bits BinOp.or IntKind.u64 (bits BinOp.andNot IntKind.u64 x0 (IntKind.wrap IntKind.u64 (r_wMask__0 x2 * (2 : Int) ^ shiftN IntKind.u64 x1))) (IntKind.wrap IntKind.u64 (x3 * (2 : Int) ^ shiftN IntKind.u64 x1)))
  else 0)
  else 0)
  else 0)
  else 0
def r_wWith_1 (x0 : Int) (x1 : Int) (x2 : Int) (x3 : Int) : Int :=
  bif !r_wIs__0 x1 x2 then ((1 : Int))
  else bif ok_wMask_ x2 then (bif bits BinOp.andNot IntKind.u64 x3 (r_wMask__0 x2) != (0 : Int) then ((2 : Int))
  else bif ok_wMask_ x2 then (bif decide ((0 : Int) ≤ x1) then (bif decide ((0 : Int) ≤ x1) then ((0 : Int))
  else 0)
  else 0)
  else 0)
  else 0
def ok_wWith (x0 : Int) (x1 : Int) (x2 : Int) (x3 : Int) : Bool :=
  bif !r_wIs__0 x1 x2 then (true)
  else bif ok_wMask_ x2 then (bif bits BinOp.andNot IntKind.u64 x3 (r_wMask__0 x2) != (0 : Int) then (true)
  else bif ok_wMask_ x2 then (bif decide ((0 : Int) ≤ x1) then (bif decide ((0 : Int) ≤ x1) then (true)
  else false)
  else false)
  else false)
  else false
def F_wWith : List At → Tr (List At) := fun l => .br 0 (ok_wWith (aI l 0) (aI l 1) (aI l 2) (aI l 3)) (.ok [.i (r_wWith_0 (aI l 0) (aI l 1) (aI l 2) (aI l 3)), .i (r_wWith_1 (aI l 0) (aI l 1) (aI l 2) (aI l 3))]) .no
theorem s_wWith : SpecF Try.prog 12 (.pure (locP ish_wWith osh_wWith F_wWith)) :=
  spec_locP (sy := y_wWith) (fuel := 100) (Lp := noLoops) o_wNumber mixed ⟨Try.func12, by kernel_rfl, by kernel_rfl⟩ ish_wWith osh_wWith rfl (noLoops_ok _) (hT_merged [.i, .i] e_wWith (fun l => by kernel_rfl) (fun l => by kernel_rfl))
def Γ_wWith : Specs := upd Γ_wNumber 12 (.pure (locP ish_wWith osh_wWith F_wWith))
theorem o_wWith : SpecOK Try.prog Γ_wWith := SpecOK.upd o_wNumber s_wWith

/-! ### wordBytes -/

def ish_wordBytes : FSh := ⟨[.v true [.k (.n .u64), .k (.n .u64), .k (.n .u64), .k (.n .u64), .k (.n .u64), .k (.n .u64), .k (.n .u64), .k (.n .u64)]], []⟩
def osh_wordBytes : FSh := ⟨[.v true [.k (.n .u8), .k (.n .u8), .k (.n .u8), .k (.n .u8), .k (.n .u8), .k (.n .u8), .k (.n .u8), .k (.n .u8), .k (.n .u8), .k (.n .u8), .k (.n .u8), .k (.n .u8), .k (.n .u8), .k (.n .u8), .k (.n .u8), .k (.n .u8), .k (.n .u8), .k (.n .u8), .k (.n .u8), .k (.n .u8), .k (.n .u8), .k (.n .u8), .k (.n .u8), .k (.n .u8), .k (.n .u8), .k (.n .u8), .k (.n .u8), .k (.n .u8), .k (.n .u8), .k (.n .u8), .k (.n .u8), .k (.n .u8), .k (.n .u8), .k (.n .u8), .k (.n .u8), .k (.n .u8), .k (.n .u8), .k (.n .u8), .k (.n .u8), .k (.n .u8), .k (.n .u8), .k (.n .u8), .k (.n .u8), .k (.n .u8), .k (.n .u8), .k (.n .u8), .k (.n .u8), .k (.n .u8), .k (.n .u8), .k (.n .u8), .k (.n .u8), .k (.n .u8), .k (.n .u8), .k (.n .u8), .k (.n .u8), .k (.n .u8), .k (.n .u8), .k (.n .u8), .k (.n .u8), .k (.n .u8), .k (.n .u8), .k (.n .u8), .k (.n .u8), .k (.n .u8)]], []⟩
def T_wordBytes (x0 : Int) (x1 : Int) (x2 : Int) (x3 : Int) (x4 : Int) (x5 : Int) (x6 : Int) (x7 : Int) : Tr (List At) :=
 .ok [(.i (IntKind.wrap IntKind.u8 (Int.fdiv x0 (1 : Int)))), (.i (IntKind.wrap IntKind.u8 (Int.fdiv x0 (256 : Int)))), (.i (IntKind.wrap IntKind.u8 (Int.fdiv x0 (65536 : Int)))), (.i (IntKind.wrap IntKind.u8 (Int.fdiv x0 (16777216 : Int)))), (.i (IntKind.wrap IntKind.u8 (Int.fdiv x0 (4294967296 : Int)))), (.i (IntKind.wrap IntKind.u8 (Int.fdiv x0 (1099511627776 : Int)))), (.i (IntKind.wrap IntKind.u8 (Int.fdiv x0 (281474976710656 : Int)))), (.i (IntKind.wrap IntKind.u8 (Int.fdiv x0 (72057594037927936 : Int)))), (.i (IntKind.wrap IntKind.u8 (Int.fdiv x1 (1 : Int)))), (.i (IntKind.wrap IntKind.u8 (Int.fdiv x1 (256 : Int)))), (.i (IntKind.wrap IntKind.u8 (Int.fdiv x1 (65536 : Int)))), (.i (IntKind.wrap IntKind.u8 (Int.fdiv x1 (16777216 : Int)))), (.i (IntKind.wrap IntKind.u8 (Int.fdiv x1 (4294967296 : Int)))), (.i (IntKind.wrap IntKind.u8 (Int.fdiv x1 (1099511627776 : Int)))), (.i (IntKind.wrap IntKind.u8 (Int.fdiv x1 (281474976710656 : Int)))), (.i (IntKind.wrap IntKind.u8 (Int.fdiv x1 (72057594037927936 : Int)))), (.i (IntKind.wrap IntKind.u8 (Int.fdiv x2 (1 : Int)))), (.i (IntKind.wrap IntKind.u8 (Int.fdiv x2 (256 : Int)))), (.i (IntKind.wrap IntKind.u8 (Int.fdiv x2 (65536 : Int)))), (.i (IntKind.wrap IntKind.u8 (Int.fdiv x2 (16777216 : Int)))), (.i (IntKind.wrap IntKind.u8 (Int.fdiv x2 (4294967296 : Int)))), (.i (IntKind.wrap IntKind.u8 (Int.fdiv x2 (1099511627776 : Int)))), (.i (IntKind.wrap IntKind.u8 (Int.fdiv x2 (281474976710656 : Int)))), (.i (IntKind.wrap IntKind.u8 (Int.fdiv x2 (72057594037927936 : Int)))), (.i (IntKind.wrap IntKind.u8 (Int.fdiv x3 (1 : Int)))), (.i (IntKind.wrap IntKind.u8 (Int.fdiv x3 (256 : Int)))), (.i (IntKind.wrap IntKind.u8 (Int.fdiv x3 (65536 : Int)))), (.i (IntKind.wrap IntKind.u8 (Int.fdiv x3 (16777216 : Int)))), (.i (IntKind.wrap IntKind.u8 (Int.fdiv x3 (4294967296 : Int)))), (.i (IntKind.wrap IntKind.u8 (Int.fdiv x3 (1099511627776 : Int)))), (.i (IntKind.wrap IntKind.u8 (Int.fdiv x3 (281474976710656 : Int)))), (.i (IntKind.wrap IntKind.u8 (Int.fdiv x3 (72057594037927936 : Int)))), (.i (IntKind.wrap IntKind.u8 (Int.fdiv x4 (1 : Int)))), (.i (IntKind.wrap IntKind.u8 (Int.fdiv x4 (256 : Int)))), (.i (IntKind.wrap IntKind.u8 (Int.fdiv x4 (65536 : Int)))), (.i (IntKind.wrap IntKind.u8 (Int.fdiv x4 (16777216 : Int)))), (.i (IntKind.wrap IntKind.u8 (Int.fdiv x4 (4294967296 : Int)))), (.i (IntKind.wrap IntKind.u8 (Int.fdiv x4 (1099511627776 : Int)))), (.i (IntKind.wrap IntKind.u8 (Int.fdiv x4 (281474976710656 : Int)))), (.i (IntKind.wrap IntKind.u8 (Int.fdiv x4 (72057594037927936 : Int)))), (.i (IntKind.wrap IntKind.u8 (Int.fdiv x5 (1 : Int)))), (.i (IntKind.wrap IntKind.u8 (Int.fdiv x5 (256 : Int)))), (.i (IntKind.wrap IntKind.u8 (Int.fdiv x5 (65536 : Int)))), (.i (IntKind.wrap IntKind.u8 (Int.fdiv x5 (16777216 : Int)))), (.i (IntKind.wrap IntKind.u8 (Int.fdiv x5 (4294967296 : Int)))), (.i (IntKind.wrap IntKind.u8 (Int.fdiv x5 (1099511627776 : Int)))), (.i (IntKind.wrap IntKind.u8 (Int.fdiv x5 (281474976710656 : Int)))), (.i (IntKind.wrap IntKind.u8 (Int.fdiv x5 (72057594037927936 : Int)))), (.i (IntKind.wrap IntKind.u8 (Int.fdiv x6 (1 : Int)))), (.i (IntKind.wrap IntKind.u8 (Int.fdiv x6 (256 : Int)))), (.i (IntKind.wrap IntKind.u8 (Int.fdiv x6 (65536 : Int)))), (.i (IntKind.wrap IntKind.u8 (Int.fdiv x6 (16777216 : Int)))), (.i (IntKind.wrap IntKind.u8 (Int.fdiv x6 (4294967296 : Int)))), (.i (IntKind.wrap IntKind.u8 (Int.fdiv x6 (1099511627776 : Int)))), (.i (IntKind.wrap IntKind.u8 (Int.fdiv x6 (281474976710656 : Int)))), (.i (IntKind.wrap IntKind.u8 (Int.fdiv x6 (72057594037927936 : Int)))), (.i (IntKind.wrap IntKind.u8 (Int.fdiv x7 (1 : Int)))), (.i (IntKind.wrap IntKind.u8 (Int.fdiv x7 (256 : Int)))), (.i (IntKind.wrap IntKind.u8 (Int.fdiv x7 (65536 : Int)))), (.i (IntKind.wrap IntKind.u8 (Int.fdiv x7 (16777216 : Int)))), (.i (IntKind.wrap IntKind.u8 (Int.fdiv x7 (4294967296 : Int)))), (.i (IntKind.wrap IntKind.u8 (Int.fdiv x7 (1099511627776 : Int)))), (.i (IntKind.wrap IntKind.u8 (Int.fdiv x7 (281474976710656 : Int)))), (.i (IntKind.wrap IntKind.u8 (Int.fdiv x7 (72057594037927936 : Int))))]
def y_wordBytes : Nat → Option Nat := (syOf3 [] [] [])
def TL_wordBytes (l : List At) : Tr (List At) := T_wordBytes (aI l 0) (aI l 1) (aI l 2) (aI l 3) (aI l 4) (aI l 5) (aI l 6) (aI l 7)
theorem e_wordBytes (l : List At) : (call Try.prog Γ_wWith y_wordBytes noLoops 100 Try.f18 (mkV ish_wordBytes l) (mkH ish_wordBytes l)).bind (leafO 0 osh_wordBytes) = TL_wordBytes l := by kernel_rfl
def r_wordBytes_0 (x0 : Int) : Int :=
  IntKind.wrap IntKind.u8 (Int.fdiv x0 (1 : Int))
def r_wordBytes_1 (x0 : Int) : Int :=
  IntKind.wrap IntKind.u8 (Int.fdiv x0 (256 : Int))
def r_wordBytes_2 (x0 : Int) : Int :=
  IntKind.wrap IntKind.u8 (Int.fdiv x0 (65536 : Int))
def r_wordBytes_3 (x0 : Int) : Int :=
  IntKind.wrap IntKind.u8 (Int.fdiv x0 (16777216 : Int))
def r_wordBytes_4 (x0 : Int) : Int :=
  IntKind.wrap IntKind.u8 (Int.fdiv x0 (4294967296 : Int))
def r_wordBytes_5 (x0 : Int) : Int :=
  IntKind.wrap IntKind.u8 (Int.fdiv x0 (1099511627776 : Int))
def r_wordBytes_6 (x0 : Int) : Int :=
  IntKind.wrap IntKind.u8 (Int.fdiv x0 (281474976710656 : Int))
def r_wordBytes_7 (x0 : Int) : Int :=
  IntKind.wrap IntKind.u8 (Int.fdiv x0 (72057594037927936 : Int))
def r_wordBytes_8 (x1 : Int) : Int :=
  IntKind.wrap IntKind.u8 (Int.fdiv x1 (1 : Int))
def r_wordBytes_9 (x1 : Int) : Int :=
  IntKind.wrap IntKind.u8 (Int.fdiv x1 (256 : Int))
def r_wordBytes_10 (x1 : Int) : Int :=
  IntKind.wrap IntKind.u8 (Int.fdiv x1 (65536 : Int))
def r_wordBytes_11 (x1 : Int) : Int :=
  IntKind.wrap IntKind.u8 (Int.fdiv x1 (16777216 : Int))
def r_wordBytes_12 (x1 : Int) : Int :=
  IntKind.wrap IntKind.u8 (Int.fdiv x1 (4294967296 : Int))
def r_wordBytes_13 (x1 : Int) : Int :=
  IntKind.wrap IntKind.u8 (Int.fdiv x1 (1099511627776 : Int))
def r_wordBytes_14 (x1 : Int) : Int :=
  IntKind.wrap IntKind.u8 (Int.fdiv x1 (281474976710656 : Int))
def r_wordBytes_15 (x1 : Int) : Int :=
  IntKind.wrap IntKind.u8 (Int.fdiv x1 (72057594037927936 : Int))
def r_wordBytes_16 (x2 : Int) : Int :=
  IntKind.wrap IntKind.u8 (Int.fdiv x2 (1 : Int))
def r_wordBytes_17 (x2 : Int) : Int :=
  IntKind.wrap IntKind.u8 (Int.fdiv x2 (256 : Int))
def r_wordBytes_18 (x2 : Int) : Int :=
  IntKind.wrap IntKind.u8 (Int.fdiv x2 (65536 : Int))
def r_wordBytes_19 (x2 : Int) : Int :=
  IntKind.wrap IntKind.u8 (Int.fdiv x2 (16777216 : Int))
def r_wordBytes_20 (x2 : Int) : Int :=
  IntKind.wrap IntKind.u8 (Int.fdiv x2 (4294967296 : Int))
def r_wordBytes_21 (x2 : Int) : Int :=
  IntKind.wrap IntKind.u8 (Int.fdiv x2 (1099511627776 : Int))
def r_wordBytes_22 (x2 : Int) : Int :=
  IntKind.wrap IntKind.u8 (Int.fdiv x2 (281474976710656 : Int))
def r_wordBytes_23 (x2 : Int) : Int :=
  IntKind.wrap IntKind.u8 (Int.fdiv x2 (72057594037927936 : Int))
def r_wordBytes_24 (x3 : Int) : Int :=
  IntKind.wrap IntKind.u8 (Int.fdiv x3 (1 : Int))
def r_wordBytes_25 (x3 : Int) : Int :=
  IntKind.wrap IntKind.u8 (Int.fdiv x3 (256 : Int))
def r_wordBytes_26 (x3 : Int) : Int :=
  IntKind.wrap IntKind.u8 (Int.fdiv x3 (65536 : Int))
def r_wordBytes_27 (x3 : Int) : Int :=
  IntKind.wrap IntKind.u8 (Int.fdiv x3 (16777216 : Int))
def r_wordBytes_28 (x3 : Int) : Int :=
  IntKind.wrap IntKind.u8 (Int.fdiv x3 (4294967296 : Int))
def r_wordBytes_29 (x3 : Int) : Int :=
  IntKind.wrap IntKind.u8 (Int.fdiv x3 (1099511627776 : Int))
def r_wordBytes_30 (x3 : Int) : Int :=
  IntKind.wrap IntKind.u8 (Int.fdiv x3 (281474976710656 : Int))
def r_wordBytes_31 (x3 : Int) : Int :=
  IntKind.wrap IntKind.u8 (Int.fdiv x3 (72057594037927936 : Int))
def r_wordBytes_32 (x4 : Int) : Int :=
  IntKind.wrap IntKind.u8 (Int.fdiv x4 (1 : Int))
def r_wordBytes_33 (x4 : Int) : Int :=
  IntKind.wrap IntKind.u8 (Int.fdiv x4 (256 : Int))
def r_wordBytes_34 (x4 : Int) : Int :=
  IntKind.wrap IntKind.u8 (Int.fdiv x4 (65536 : Int))
def r_wordBytes_35 (x4 : Int) : Int :=
  IntKind.wrap IntKind.u8 (Int.fdiv x4 (16777216 : Int))
def r_wordBytes_36 (x4 : Int) : Int :=
  IntKind.wrap IntKind.u8 (Int.fdiv x4 (4294967296 : Int))
def r_wordBytes_37 (x4 : Int) : Int :=
  IntKind.wrap IntKind.u8 (Int.fdiv x4 (1099511627776 : Int))
def r_wordBytes_38 (x4 : Int) : Int :=
  IntKind.wrap IntKind.u8 (Int.fdiv x4 (281474976710656 : Int))
def r_wordBytes_39 (x4 : Int) : Int :=
  IntKind.wrap IntKind.u8 (Int.fdiv x4 (72057594037927936 : Int))
def r_wordBytes_40 (x5 : Int) : Int :=
  IntKind.wrap IntKind.u8 (Int.fdiv x5 (1 : Int))
def r_wordBytes_41 (x5 : Int) : Int :=
  IntKind.wrap IntKind.u8 (Int.fdiv x5 (256 : Int))
def r_wordBytes_42 (x5 : Int) : Int :=
  IntKind.wrap IntKind.u8 (Int.fdiv x5 (65536 : Int))
def r_wordBytes_43 (x5 : Int) : Int :=
  IntKind.wrap IntKind.u8 (Int.fdiv x5 (16777216 : Int))
def r_wordBytes_44 (x5 : Int) : Int :=
  IntKind.wrap IntKind.u8 (Int.fdiv x5 (4294967296 : Int))
def r_wordBytes_45 (x5 : Int) : Int :=
  IntKind.wrap IntKind.u8 (Int.fdiv x5 (1099511627776 : Int))
def r_wordBytes_46 (x5 : Int) : Int :=
  IntKind.wrap IntKind.u8 (Int.fdiv x5 (281474976710656 : Int))
def r_wordBytes_47 (x5 : Int) : Int :=
  IntKind.wrap IntKind.u8 (Int.fdiv x5 (72057594037927936 : Int))
def r_wordBytes_48 (x6 : Int) : Int :=
  IntKind.wrap IntKind.u8 (Int.fdiv x6 (1 : Int))
def r_wordBytes_49 (x6 : Int) : Int :=
  IntKind.wrap IntKind.u8 (Int.fdiv x6 (256 : Int))
def r_wordBytes_50 (x6 : Int) : Int :=
  IntKind.wrap IntKind.u8 (Int.fdiv x6 (65536 : Int))
def r_wordBytes_51 (x6 : Int) : Int :=
  IntKind.wrap IntKind.u8 (Int.fdiv x6 (16777216 : Int))
def r_wordBytes_52 (x6 : Int) : Int :=
  IntKind.wrap IntKind.u8 (Int.fdiv x6 (4294967296 : Int))
def r_wordBytes_53 (x6 : Int) : Int :=
  IntKind.wrap IntKind.u8 (Int.fdiv x6 (1099511627776 : Int))
def r_wordBytes_54 (x6 : Int) : Int :=
  IntKind.wrap IntKind.u8 (Int.fdiv x6 (281474976710656 : Int))
def r_wordBytes_55 (x6 : Int) : Int :=
  IntKind.wrap IntKind.u8 (Int.fdiv x6 (72057594037927936 : Int))
def r_wordBytes_56 (x7 : Int) : Int :=
  IntKind.wrap IntKind.u8 (Int.fdiv x7 (1 : Int))
def r_wordBytes_57 (x7 : Int) : Int :=
  IntKind.wrap IntKind.u8 (Int.fdiv x7 (256 : Int))
def r_wordBytes_58 (x7 : Int) : Int :=
  IntKind.wrap IntKind.u8 (Int.fdiv x7 (65536 : Int))
def r_wordBytes_59 (x7 : Int) : Int :=
  IntKind.wrap IntKind.u8 (Int.fdiv x7 (16777216 : Int))
def r_wordBytes_60 (x7 : Int) : Int :=
  IntKind.wrap IntKind.u8 (Int.fdiv x7 (4294967296 : Int))
def r_wordBytes_61 (x7 : Int) : Int :=
  IntKind.wrap IntKind.u8 (Int.fdiv x7 (1099511627776 : Int))
def r_wordBytes_62 (x7 : Int) : Int :=
  IntKind.wrap IntKind.u8 (Int.fdiv x7 (281474976710656 : Int))
def r_wordBytes_63 (x7 : Int) : Int :=
  IntKind.wrap IntKind.u8 (Int.fdiv x7 (72057594037927936 : Int))
def F_wordBytes : List At → Tr (List At) := fun l => .ok [.i (r_wordBytes_0 (aI l 0)), .i (r_wordBytes_1 (aI l 0)), .i (r_wordBytes_2 (aI l 0)), .i (r_wordBytes_3 (aI l 0)), .i (r_wordBytes_4 (aI l 0)), .i (r_wordBytes_5 (aI l 0)), .i (r_wordBytes_6 (aI l 0)), .i (r_wordBytes_7 (aI l 0)), .i (r_wordBytes_8 (aI l 1)), .i (r_wordBytes_9 (aI l 1)), .i (r_wordBytes_10 (aI l 1)), .i (r_wordBytes_11 (aI l 1)), .i (r_wordBytes_12 (aI l 1)), .i (r_wordBytes_13 (aI l 1)), .i (r_wordBytes_14 (aI l 1)), .i (r_wordBytes_15 (aI l 1)), .i (r_wordBytes_16 (aI l 2)), .i (r_wordBytes_17 (aI l 2)), .i (r_wordBytes_18 (aI l 2)), .i (r_wordBytes_19 (aI l 2)), .i (r_wordBytes_20 (aI l 2)), .i (r_wordBytes_21 (aI l 2)), .i (r_wordBytes_22 (aI l 2)), .i (r_wordBytes_23 (aI l 2)), .i (r_wordBytes_24 (aI l 3)), .i (r_wordBytes_25 (aI l 3)), .i (r_wordBytes_26 (aI l 3)), .i (r_wordBytes_27 (aI l 3)), .i (r_wordBytes_28 (aI l 3)), .i (r_wordBytes_29 (aI l 3)), .i (r_wordBytes_30 (aI l 3)), .i (r_wordBytes_31 (aI l 3)), .i (r_wordBytes_32 (aI l 4)), .i (r_wordBytes_33 (aI l 4)), .i (r_wordBytes_34 (aI l 4)), .i (r_wordBytes_35 (aI l 4)), .i (r_wordBytes_36 (aI l 4)), .i (r_wordBytes_37 (aI l 4)), .i (r_wordBytes_38 (aI l 4)), .i (r_wordBytes_39 (aI l 4)), .i (r_wordBytes_40 (aI l 5)), .i (r_wordBytes_41 (aI l 5)), .i (r_wordBytes_42 (aI l 5)), .i (r_wordBytes_43 (aI l 5)), .i (r_wordBytes_44 (aI l 5)), .i (r_wordBytes_45 (aI l 5)), .i (r_wordBytes_46 (aI l 5)), .i (r_wordBytes_47 (aI l 5)), .i (r_wordBytes_48 (aI l 6)), .i (r_wordBytes_49 (aI l 6)), .i (r_wordBytes_50 (aI l 6)), .i (r_wordBytes_51 (aI l 6)), .i (r_wordBytes_52 (aI l 6)), .i (r_wordBytes_53 (aI l 6)), .i (r_wordBytes_54 (aI l 6)), .i (r_wordBytes_55 (aI l 6)), .i (r_wordBytes_56 (aI l 7)), .i (r_wordBytes_57 (aI l 7)), .i (r_wordBytes_58 (aI l 7)), .i (r_wordBytes_59 (aI l 7)), .i (r_wordBytes_60 (aI l 7)), .i (r_wordBytes_61 (aI l 7)), .i (r_wordBytes_62 (aI l 7)), .i (r_wordBytes_63 (aI l 7))]
theorem s_wordBytes : SpecF Try.prog 18 (.pure (locP ish_wordBytes osh_wordBytes F_wordBytes)) :=
  spec_locP (sy := y_wordBytes) (fuel := 100) (Lp := noLoops) o_wWith mixed ⟨Try.func18, by kernel_rfl, by kernel_rfl⟩ ish_wordBytes osh_wordBytes rfl (noLoops_ok _) (hT_merged [.i, .i, .i, .i, .i, .i, .i, .i, .i, .i, .i, .i, .i, .i, .i, .i, .i, .i, .i, .i, .i, .i, .i, .i, .i, .i, .i, .i, .i, .i, .i, .i, .i, .i, .i, .i, .i, .i, .i, .i, .i, .i, .i, .i, .i, .i, .i, .i, .i, .i, .i, .i, .i, .i, .i, .i, .i, .i, .i, .i, .i, .i, .i, .i] e_wordBytes (fun l => by kernel_rfl) (fun l => by kernel_rfl))
def Γ_wordBytes : Specs := upd Γ_wWith 18 (.pure (locP ish_wordBytes osh_wordBytes F_wordBytes))
theorem o_wordBytes : SpecOK Try.prog Γ_wordBytes := SpecOK.upd o_wWith s_wordBytes

/-! ### shown -/

def ish_shown : FSh := ⟨[], []⟩
def osh_shown : FSh := ⟨[.v false [.k .b]], []⟩
def T_shown  : Tr (List At) :=
 .br 0 (true)
 (.br 0 (true)
 (.br 0 (true)
 (.br 0 (true)
 (.br 0 (true)
 (.ok [(.b (true))])
 (.no))
 (.no))
 (.no))
 (.no))
 (.no)
def y_shown : Nat → Option Nat := (syOf3 [] [] [])
def TL_shown (l : List At) : Tr (List At) := T_shown 
theorem e_shown (l : List At) : (call Try.prog Γ_wordBytes y_shown noLoops 100 Try.f11 (mkV ish_shown l) (mkH ish_shown l)).bind (leafO 0 osh_shown) = TL_shown l := by kernel_rfl
def r_shown_0  : Bool :=
  bif true then (bif true then (bif true then (bif true then (bif true then (true)
  else false)
  else false)
  else false)
  else false)
  else false
def ok_shown  : Bool :=
  bif true then (bif true then (bif true then (bif true then (bif true then (true)
  else false)
  else false)
  else false)
  else false)
  else false
def F_shown : List At → Tr (List At) := fun l => .br 0 (ok_shown ) (.ok [.b (r_shown_0)]) .no
theorem s_shown : SpecF Try.prog 11 (.pure (locP ish_shown osh_shown F_shown)) :=
  spec_locP (sy := y_shown) (fuel := 100) (Lp := noLoops) o_wordBytes mixed ⟨Try.func11, by kernel_rfl, by kernel_rfl⟩ ish_shown osh_shown rfl (noLoops_ok _) (hT_merged [.b] e_shown (fun l => by kernel_rfl) (fun l => by kernel_rfl))
def Γ_shown : Specs := upd Γ_wordBytes 11 (.pure (locP ish_shown osh_shown F_shown))
theorem o_shown : SpecOK Try.prog Γ_shown := SpecOK.upd o_wordBytes s_shown

end Go.Proofs.Ytgohhgkonbenbaa.G
end

/-
  What functions of the seat compute, printed by a program from the explorer.
-/
section
namespace Go.Proofs.Ytgohhgkonbenbaa.G
open Go Go.AM Go.Proofs
/-! ### the loop at 9 of WordLines -/

def lsh_WordLines_9 : FSh := ⟨[.any, .any, .v false [.k (.n .u64)], .any, .any, .any, .any, .v false [.k .b], .v false [.k (.n .i64)], .v false [.p 0 0], .v false [.p 1 0], .v false [.k (.n .i64)], .any, .any, .any, .any, .any, .any, .any, .any, .any, .any, .any, .any, .any, .any, .any, .any, .any, .any, .any, .any, .any, .any, .any, .any, .any, .any, .any, .any, .any, .any, .any, .any, .any, .any, .any, .any, .any, .any, .any, .any, .any, .any, .any, .any, .any, .any, .any, .any, .any, .any], [.cells [.k (.n .u8), .k (.n .u8), .k (.n .u8), .k (.n .u8), .k (.n .u8), .k (.n .u8), .k (.n .u8), .k (.n .u8), .k (.n .u8), .k (.n .u8), .k (.n .u8), .k (.n .u8), .k (.n .u8), .k (.n .u8), .k (.n .u8), .k (.n .u8), .k (.n .u8), .k (.n .u8), .k (.n .u8), .k (.n .u8), .k (.n .u8), .k (.n .u8), .k (.n .u8), .k (.n .u8), .k (.n .u8), .k (.n .u8), .k (.n .u8), .k (.n .u8), .k (.n .u8), .k (.n .u8), .k (.n .u8), .k (.n .u8), .k (.n .u8), .k (.n .u8), .k (.n .u8), .k (.n .u8), .k (.n .u8), .k (.n .u8), .k (.n .u8), .k (.n .u8), .k (.n .u8), .k (.n .u8), .k (.n .u8), .k (.n .u8), .k (.n .u8), .k (.n .u8), .k (.n .u8), .k (.n .u8), .k (.n .u8), .k (.n .u8), .k (.n .u8), .k (.n .u8), .k (.n .u8), .k (.n .u8), .k (.n .u8), .k (.n .u8), .k (.n .u8), .k (.n .u8), .k (.n .u8), .k (.n .u8), .k (.n .u8), .k (.n .u8), .k (.n .u8), .k (.n .u8)], .cells [.k (.n .u8), .k (.n .u8), .k (.n .u8), .k (.n .u8), .k (.n .u8), .k (.n .u8), .k (.n .u8), .k (.n .u8), .k (.n .u8), .k (.n .u8), .k (.n .u8), .k (.n .u8), .k (.n .u8), .k (.n .u8), .k (.n .u8), .k (.n .u8), .k (.n .u8), .k (.n .u8), .k (.n .u8), .k (.n .u8), .k (.n .u8), .k (.n .u8), .k (.n .u8), .k (.n .u8), .k (.n .u8), .k (.n .u8), .k (.n .u8), .k (.n .u8), .k (.n .u8), .k (.n .u8), .k (.n .u8), .k (.n .u8), .k (.n .u8), .k (.n .u8), .k (.n .u8), .k (.n .u8), .k (.n .u8), .k (.n .u8), .k (.n .u8), .k (.n .u8), .k (.n .u8), .k (.n .u8), .k (.n .u8), .k (.n .u8), .k (.n .u8), .k (.n .u8), .k (.n .u8), .k (.n .u8), .k (.n .u8), .k (.n .u8), .k (.n .u8), .k (.n .u8), .k (.n .u8), .k (.n .u8), .k (.n .u8), .k (.n .u8), .k (.n .u8), .k (.n .u8), .k (.n .u8), .k (.n .u8), .k (.n .u8), .k (.n .u8), .k (.n .u8), .k (.n .u8)]]⟩
def xsh_WordLines_9_0 : FSh := ⟨[.any, .any, .any, .any, .any, .any, .any, .v false [.k .b], .any, .any, .any, .any, .any, .any, .any, .any, .any, .any, .any, .any, .any, .any, .any, .any, .any, .any, .any, .any, .any, .any, .any, .any, .any, .any, .any, .any, .any, .any, .any, .any, .any, .any, .any, .any, .any, .any, .any, .any, .any, .any, .any, .any, .any, .any, .any, .any, .any, .any, .any, .any, .any, .any], []⟩
def xs_WordLines_9 : Exs := fun e => match e with
  | .normal => some lsh_WordLines_9
  | .exit n => (match Nat.beq n 0 with | true => some xsh_WordLines_9_0 | false => none)
  | .ret => none
def B_WordLines_9 (x0 : Int) (x1 : Bool) (x2 : Int) (x3 : Int) (x4 : Int) (x5 : Int) (x6 : Int) (x7 : Int) (x8 : Int) (x9 : Int) (x10 : Int) (x11 : Int) (x12 : Int) (x13 : Int) (x14 : Int) (x15 : Int) (x16 : Int) (x17 : Int) (x18 : Int) (x19 : Int) (x20 : Int) (x21 : Int) (x22 : Int) (x23 : Int) (x24 : Int) (x25 : Int) (x26 : Int) (x27 : Int) (x28 : Int) (x29 : Int) (x30 : Int) (x31 : Int) (x32 : Int) (x33 : Int) (x34 : Int) (x35 : Int) (x36 : Int) (x37 : Int) (x38 : Int) (x39 : Int) (x40 : Int) (x41 : Int) (x42 : Int) (x43 : Int) (x44 : Int) (x45 : Int) (x46 : Int) (x47 : Int) (x48 : Int) (x49 : Int) (x50 : Int) (x51 : Int) (x52 : Int) (x53 : Int) (x54 : Int) (x55 : Int) (x56 : Int) (x57 : Int) (x58 : Int) (x59 : Int) (x60 : Int) (x61 : Int) (x62 : Int) (x63 : Int) (x64 : Int) (x65 : Int) (x66 : Int) (x67 : Int) (x68 : Int) (x69 : Int) (x70 : Int) (x71 : Int) (x72 : Int) (x73 : Int) (x74 : Int) (x75 : Int) (x76 : Int) (x77 : Int) (x78 : Int) (x79 : Int) (x80 : Int) (x81 : Int) (x82 : Int) (x83 : Int) (x84 : Int) (x85 : Int) (x86 : Int) (x87 : Int) (x88 : Int) (x89 : Int) (x90 : Int) (x91 : Int) (x92 : Int) (x93 : Int) (x94 : Int) (x95 : Int) (x96 : Int) (x97 : Int) (x98 : Int) (x99 : Int) (x100 : Int) (x101 : Int) (x102 : Int) (x103 : Int) (x104 : Int) (x105 : Int) (x106 : Int) (x107 : Int) (x108 : Int) (x109 : Int) (x110 : Int) (x111 : Int) (x112 : Int) (x113 : Int) (x114 : Int) (x115 : Int) (x116 : Int) (x117 : Int) (x118 : Int) (x119 : Int) (x120 : Int) (x121 : Int) (x122 : Int) (x123 : Int) (x124 : Int) (x125 : Int) (x126 : Int) (x127 : Int) (x128 : Int) (x129 : Int) (x130 : Int) (x131 : Int) : Tr (Ex × List At) :=
 .br 27 (decide (x3 < (64 : Int)))
 (.br 34 (IntKind.wrap IntKind.i64 (Int.tdiv x3 (8 : Int)) != x2)
 (.br 200036 (within x3 (64 : Nat))
 (.br 200039 (within x3 (64 : Nat))
 (.br 43 (List.getD [x4, x5, x6, x7, x8, x9, x10, x11, x12, x13, x14, x15, x16, x17, x18, x19, x20, x21, x22, x23, x24, x25, x26, x27, x28, x29, x30, x31, x32, x33, x34, x35, x36, x37, x38, x39, x40, x41, x42, x43, x44, x45, x46, x47, x48, x49, x50, x51, x52, x53, x54, x55, x56, x57, x58, x59, x60, x61, x62, x63, x64, x65, x66, x67] (Int.toNat x3) (0 : Int) != List.getD [x68, x69, x70, x71, x72, x73, x74, x75, x76, x77, x78, x79, x80, x81, x82, x83, x84, x85, x86, x87, x88, x89, x90, x91, x92, x93, x94, x95, x96, x97, x98, x99, x100, x101, x102, x103, x104, x105, x106, x107, x108, x109, x110, x111, x112, x113, x114, x115, x116, x117, x118, x119, x120, x121, x122, x123, x124, x125, x126, x127, x128, x129, x130, x131] (Int.toNat x3) (0 : Int))
 (.no)
 (.br 48 (IntKind.wrap IntKind.i64 (Int.tdiv x3 (8 : Int)) == x2)
 (.br 200050 (within x3 (64 : Nat))
 (.br 0 (ok_wField_ x0 (IntKind.wrap IntKind.i64 ((8 : Int) * Int.tmod x3 (8 : Int))) (8 : Int))
 (.br 60 (IntKind.wrap IntKind.u64 (List.getD [x68, x69, x70, x71, x72, x73, x74, x75, x76, x77, x78, x79, x80, x81, x82, x83, x84, x85, x86, x87, x88, x89, x90, x91, x92, x93, x94, x95, x96, x97, x98, x99, x100, x101, x102, x103, x104, x105, x106, x107, x108, x109, x110, x111, x112, x113, x114, x115, x116, x117, x118, x119, x120, x121, x122, x123, x124, x125, x126, x127, x128, x129, x130, x131] (Int.toNat x3) (0 : Int)) != r_wField__0 x0 (IntKind.wrap IntKind.i64 ((8 : Int) * Int.tmod x3 (8 : Int))) (8 : Int))
 (.no)
 (.ok (.normal, [(.i (x0)), (.b (x1)), (.i (x2)), (.i (IntKind.wrap IntKind.i64 (x3 + (1 : Int)))), (.i (x4)), (.i (x5)), (.i (x6)), (.i (x7)), (.i (x8)), (.i (x9)), (.i (x10)), (.i (x11)), (.i (x12)), (.i (x13)), (.i (x14)), (.i (x15)), (.i (x16)), (.i (x17)), (.i (x18)), (.i (x19)), (.i (x20)), (.i (x21)), (.i (x22)), (.i (x23)), (.i (x24)), (.i (x25)), (.i (x26)), (.i (x27)), (.i (x28)), (.i (x29)), (.i (x30)), (.i (x31)), (.i (x32)), (.i (x33)), (.i (x34)), (.i (x35)), (.i (x36)), (.i (x37)), (.i (x38)), (.i (x39)), (.i (x40)), (.i (x41)), (.i (x42)), (.i (x43)), (.i (x44)), (.i (x45)), (.i (x46)), (.i (x47)), (.i (x48)), (.i (x49)), (.i (x50)), (.i (x51)), (.i (x52)), (.i (x53)), (.i (x54)), (.i (x55)), (.i (x56)), (.i (x57)), (.i (x58)), (.i (x59)), (.i (x60)), (.i (x61)), (.i (x62)), (.i (x63)), (.i (x64)), (.i (x65)), (.i (x66)), (.i (x67)), (.i (x68)), (.i (x69)), (.i (x70)), (.i (x71)), (.i (x72)), (.i (x73)), (.i (x74)), (.i (x75)), (.i (x76)), (.i (x77)), (.i (x78)), (.i (x79)), (.i (x80)), (.i (x81)), (.i (x82)), (.i (x83)), (.i (x84)), (.i (x85)), (.i (x86)), (.i (x87)), (.i (x88)), (.i (x89)), (.i (x90)), (.i (x91)), (.i (x92)), (.i (x93)), (.i (x94)), (.i (x95)), (.i (x96)), (.i (x97)), (.i (x98)), (.i (x99)), (.i (x100)), (.i (x101)), (.i (x102)), (.i (x103)), (.i (x104)), (.i (x105)), (.i (x106)), (.i (x107)), (.i (x108)), (.i (x109)), (.i (x110)), (.i (x111)), (.i (x112)), (.i (x113)), (.i (x114)), (.i (x115)), (.i (x116)), (.i (x117)), (.i (x118)), (.i (x119)), (.i (x120)), (.i (x121)), (.i (x122)), (.i (x123)), (.i (x124)), (.i (x125)), (.i (x126)), (.i (x127)), (.i (x128)), (.i (x129)), (.i (x130)), (.i (x131))])))
 (.no))
 (.no))
 (.ok (.normal, [(.i (x0)), (.b (x1)), (.i (x2)), (.i (IntKind.wrap IntKind.i64 (x3 + (1 : Int)))), (.i (x4)), (.i (x5)), (.i (x6)), (.i (x7)), (.i (x8)), (.i (x9)), (.i (x10)), (.i (x11)), (.i (x12)), (.i (x13)), (.i (x14)), (.i (x15)), (.i (x16)), (.i (x17)), (.i (x18)), (.i (x19)), (.i (x20)), (.i (x21)), (.i (x22)), (.i (x23)), (.i (x24)), (.i (x25)), (.i (x26)), (.i (x27)), (.i (x28)), (.i (x29)), (.i (x30)), (.i (x31)), (.i (x32)), (.i (x33)), (.i (x34)), (.i (x35)), (.i (x36)), (.i (x37)), (.i (x38)), (.i (x39)), (.i (x40)), (.i (x41)), (.i (x42)), (.i (x43)), (.i (x44)), (.i (x45)), (.i (x46)), (.i (x47)), (.i (x48)), (.i (x49)), (.i (x50)), (.i (x51)), (.i (x52)), (.i (x53)), (.i (x54)), (.i (x55)), (.i (x56)), (.i (x57)), (.i (x58)), (.i (x59)), (.i (x60)), (.i (x61)), (.i (x62)), (.i (x63)), (.i (x64)), (.i (x65)), (.i (x66)), (.i (x67)), (.i (x68)), (.i (x69)), (.i (x70)), (.i (x71)), (.i (x72)), (.i (x73)), (.i (x74)), (.i (x75)), (.i (x76)), (.i (x77)), (.i (x78)), (.i (x79)), (.i (x80)), (.i (x81)), (.i (x82)), (.i (x83)), (.i (x84)), (.i (x85)), (.i (x86)), (.i (x87)), (.i (x88)), (.i (x89)), (.i (x90)), (.i (x91)), (.i (x92)), (.i (x93)), (.i (x94)), (.i (x95)), (.i (x96)), (.i (x97)), (.i (x98)), (.i (x99)), (.i (x100)), (.i (x101)), (.i (x102)), (.i (x103)), (.i (x104)), (.i (x105)), (.i (x106)), (.i (x107)), (.i (x108)), (.i (x109)), (.i (x110)), (.i (x111)), (.i (x112)), (.i (x113)), (.i (x114)), (.i (x115)), (.i (x116)), (.i (x117)), (.i (x118)), (.i (x119)), (.i (x120)), (.i (x121)), (.i (x122)), (.i (x123)), (.i (x124)), (.i (x125)), (.i (x126)), (.i (x127)), (.i (x128)), (.i (x129)), (.i (x130)), (.i (x131))]))))
 (.no))
 (.no))
 (.br 48 (IntKind.wrap IntKind.i64 (Int.tdiv x3 (8 : Int)) == x2)
 (.br 200050 (within x3 (64 : Nat))
 (.br 0 (ok_wField_ x0 (IntKind.wrap IntKind.i64 ((8 : Int) * Int.tmod x3 (8 : Int))) (8 : Int))
 (.br 60 (IntKind.wrap IntKind.u64 (List.getD [x68, x69, x70, x71, x72, x73, x74, x75, x76, x77, x78, x79, x80, x81, x82, x83, x84, x85, x86, x87, x88, x89, x90, x91, x92, x93, x94, x95, x96, x97, x98, x99, x100, x101, x102, x103, x104, x105, x106, x107, x108, x109, x110, x111, x112, x113, x114, x115, x116, x117, x118, x119, x120, x121, x122, x123, x124, x125, x126, x127, x128, x129, x130, x131] (Int.toNat x3) (0 : Int)) != r_wField__0 x0 (IntKind.wrap IntKind.i64 ((8 : Int) * Int.tmod x3 (8 : Int))) (8 : Int))
 (.no)
 (.ok (.normal, [(.i (x0)), (.b (x1)), (.i (x2)), (.i (IntKind.wrap IntKind.i64 (x3 + (1 : Int)))), (.i (x4)), (.i (x5)), (.i (x6)), (.i (x7)), (.i (x8)), (.i (x9)), (.i (x10)), (.i (x11)), (.i (x12)), (.i (x13)), (.i (x14)), (.i (x15)), (.i (x16)), (.i (x17)), (.i (x18)), (.i (x19)), (.i (x20)), (.i (x21)), (.i (x22)), (.i (x23)), (.i (x24)), (.i (x25)), (.i (x26)), (.i (x27)), (.i (x28)), (.i (x29)), (.i (x30)), (.i (x31)), (.i (x32)), (.i (x33)), (.i (x34)), (.i (x35)), (.i (x36)), (.i (x37)), (.i (x38)), (.i (x39)), (.i (x40)), (.i (x41)), (.i (x42)), (.i (x43)), (.i (x44)), (.i (x45)), (.i (x46)), (.i (x47)), (.i (x48)), (.i (x49)), (.i (x50)), (.i (x51)), (.i (x52)), (.i (x53)), (.i (x54)), (.i (x55)), (.i (x56)), (.i (x57)), (.i (x58)), (.i (x59)), (.i (x60)), (.i (x61)), (.i (x62)), (.i (x63)), (.i (x64)), (.i (x65)), (.i (x66)), (.i (x67)), (.i (x68)), (.i (x69)), (.i (x70)), (.i (x71)), (.i (x72)), (.i (x73)), (.i (x74)), (.i (x75)), (.i (x76)), (.i (x77)), (.i (x78)), (.i (x79)), (.i (x80)), (.i (x81)), (.i (x82)), (.i (x83)), (.i (x84)), (.i (x85)), (.i (x86)), (.i (x87)), (.i (x88)), (.i (x89)), (.i (x90)), (.i (x91)), (.i (x92)), (.i (x93)), (.i (x94)), (.i (x95)), (.i (x96)), (.i (x97)), (.i (x98)), (.i (x99)), (.i (x100)), (.i (x101)), (.i (x102)), (.i (x103)), (.i (x104)), (.i (x105)), (.i (x106)), (.i (x107)), (.i (x108)), (.i (x109)), (.i (x110)), (.i (x111)), (.i (x112)), (.i (x113)), (.i (x114)), (.i (x115)), (.i (x116)), (.i (x117)), (.i (x118)), (.i (x119)), (.i (x120)), (.i (x121)), (.i (x122)), (.i (x123)), (.i (x124)), (.i (x125)), (.i (x126)), (.i (x127)), (.i (x128)), (.i (x129)), (.i (x130)), (.i (x131))])))
 (.no))
 (.no))
 (.ok (.normal, [(.i (x0)), (.b (x1)), (.i (x2)), (.i (IntKind.wrap IntKind.i64 (x3 + (1 : Int)))), (.i (x4)), (.i (x5)), (.i (x6)), (.i (x7)), (.i (x8)), (.i (x9)), (.i (x10)), (.i (x11)), (.i (x12)), (.i (x13)), (.i (x14)), (.i (x15)), (.i (x16)), (.i (x17)), (.i (x18)), (.i (x19)), (.i (x20)), (.i (x21)), (.i (x22)), (.i (x23)), (.i (x24)), (.i (x25)), (.i (x26)), (.i (x27)), (.i (x28)), (.i (x29)), (.i (x30)), (.i (x31)), (.i (x32)), (.i (x33)), (.i (x34)), (.i (x35)), (.i (x36)), (.i (x37)), (.i (x38)), (.i (x39)), (.i (x40)), (.i (x41)), (.i (x42)), (.i (x43)), (.i (x44)), (.i (x45)), (.i (x46)), (.i (x47)), (.i (x48)), (.i (x49)), (.i (x50)), (.i (x51)), (.i (x52)), (.i (x53)), (.i (x54)), (.i (x55)), (.i (x56)), (.i (x57)), (.i (x58)), (.i (x59)), (.i (x60)), (.i (x61)), (.i (x62)), (.i (x63)), (.i (x64)), (.i (x65)), (.i (x66)), (.i (x67)), (.i (x68)), (.i (x69)), (.i (x70)), (.i (x71)), (.i (x72)), (.i (x73)), (.i (x74)), (.i (x75)), (.i (x76)), (.i (x77)), (.i (x78)), (.i (x79)), (.i (x80)), (.i (x81)), (.i (x82)), (.i (x83)), (.i (x84)), (.i (x85)), (.i (x86)), (.i (x87)), (.i (x88)), (.i (x89)), (.i (x90)), (.i (x91)), (.i (x92)), (.i (x93)), (.i (x94)), (.i (x95)), (.i (x96)), (.i (x97)), (.i (x98)), (.i (x99)), (.i (x100)), (.i (x101)), (.i (x102)), (.i (x103)), (.i (x104)), (.i (x105)), (.i (x106)), (.i (x107)), (.i (x108)), (.i (x109)), (.i (x110)), (.i (x111)), (.i (x112)), (.i (x113)), (.i (x114)), (.i (x115)), (.i (x116)), (.i (x117)), (.i (x118)), (.i (x119)), (.i (x120)), (.i (x121)), (.i (x122)), (.i (x123)), (.i (x124)), (.i (x125)), (.i (x126)), (.i (x127)), (.i (x128)), (.i (x129)), (.i (x130)), (.i (x131))]))))
 (.ok (.exit 0, [(.b (x1))]))
def y_WordLines_9 : Nat → Option Nat := (syOf3 [27, 34, 43, 48, 60] [] [36, 39, 50])
def BL_WordLines_9 (l : List At) : Tr (Ex × List At) := B_WordLines_9 (aI l 0) (aB l 1) (aI l 2) (aI l 3) (aI l 4) (aI l 5) (aI l 6) (aI l 7) (aI l 8) (aI l 9) (aI l 10) (aI l 11) (aI l 12) (aI l 13) (aI l 14) (aI l 15) (aI l 16) (aI l 17) (aI l 18) (aI l 19) (aI l 20) (aI l 21) (aI l 22) (aI l 23) (aI l 24) (aI l 25) (aI l 26) (aI l 27) (aI l 28) (aI l 29) (aI l 30) (aI l 31) (aI l 32) (aI l 33) (aI l 34) (aI l 35) (aI l 36) (aI l 37) (aI l 38) (aI l 39) (aI l 40) (aI l 41) (aI l 42) (aI l 43) (aI l 44) (aI l 45) (aI l 46) (aI l 47) (aI l 48) (aI l 49) (aI l 50) (aI l 51) (aI l 52) (aI l 53) (aI l 54) (aI l 55) (aI l 56) (aI l 57) (aI l 58) (aI l 59) (aI l 60) (aI l 61) (aI l 62) (aI l 63) (aI l 64) (aI l 65) (aI l 66) (aI l 67) (aI l 68) (aI l 69) (aI l 70) (aI l 71) (aI l 72) (aI l 73) (aI l 74) (aI l 75) (aI l 76) (aI l 77) (aI l 78) (aI l 79) (aI l 80) (aI l 81) (aI l 82) (aI l 83) (aI l 84) (aI l 85) (aI l 86) (aI l 87) (aI l 88) (aI l 89) (aI l 90) (aI l 91) (aI l 92) (aI l 93) (aI l 94) (aI l 95) (aI l 96) (aI l 97) (aI l 98) (aI l 99) (aI l 100) (aI l 101) (aI l 102) (aI l 103) (aI l 104) (aI l 105) (aI l 106) (aI l 107) (aI l 108) (aI l 109) (aI l 110) (aI l 111) (aI l 112) (aI l 113) (aI l 114) (aI l 115) (aI l 116) (aI l 117) (aI l 118) (aI l 119) (aI l 120) (aI l 121) (aI l 122) (aI l 123) (aI l 124) (aI l 125) (aI l 126) (aI l 127) (aI l 128) (aI l 129) (aI l 130) (aI l 131)
theorem eB_WordLines_9 (l : List At) : (exec Try.prog Γ_shown y_WordLines_9 noLoops 100 (loopAt Try.f9 9) ⟨mkV lsh_WordLines_9 l, mkH lsh_WordLines_9 l⟩).bind (leafL 0 xs_WordLines_9) = BL_WordLines_9 l := by kernel_rfl
/- by hand: O_WordLines_9 (x0 : Int) (x1 : Bool) (x2 : Int) (x3 : Int) (x4 : Int) (x5 : Int) (x6 : Int) (x7 : Int) (x8 : Int) (x9 : Int) (x10 : Int) (x11 : Int) (x12 : Int) (x13 : Int) (x14 : Int) (x15 : Int) (x16 : Int) (x17 : Int) (x18 : Int) (x19 : Int) (x20 : Int) (x21 : Int) (x22 : Int) (x23 : Int) (x24 : Int) (x25 : Int) (x26 : Int) (x27 : Int) (x28 : Int) (x29 : Int) (x30 : Int) (x31 : Int) (x32 : Int) (x33 : Int) (x34 : Int) (x35 : Int) (x36 : Int) (x37 : Int) (x38 : Int) (x39 : Int) (x40 : Int) (x41 : Int) (x42 : Int) (x43 : Int) (x44 : Int) (x45 : Int) (x46 : Int) (x47 : Int) (x48 : Int) (x49 : Int) (x50 : Int) (x51 : Int) (x52 : Int) (x53 : Int) (x54 : Int) (x55 : Int) (x56 : Int) (x57 : Int) (x58 : Int) (x59 : Int) (x60 : Int) (x61 : Int) (x62 : Int) (x63 : Int) (x64 : Int) (x65 : Int) (x66 : Int) (x67 : Int) (x68 : Int) (x69 : Int) (x70 : Int) (x71 : Int) (x72 : Int) (x73 : Int) (x74 : Int) (x75 : Int) (x76 : Int) (x77 : Int) (x78 : Int) (x79 : Int) (x80 : Int) (x81 : Int) (x82 : Int) (x83 : Int) (x84 : Int) (x85 : Int) (x86 : Int) (x87 : Int) (x88 : Int) (x89 : Int) (x90 : Int) (x91 : Int) (x92 : Int) (x93 : Int) (x94 : Int) (x95 : Int) (x96 : Int) (x97 : Int) (x98 : Int) (x99 : Int) (x100 : Int) (x101 : Int) (x102 : Int) (x103 : Int) (x104 : Int) (x105 : Int) (x106 : Int) (x107 : Int) (x108 : Int) (x109 : Int) (x110 : Int) (x111 : Int) (x112 : Int) (x113 : Int) (x114 : Int) (x115 : Int) (x116 : Int) (x117 : Int) (x118 : Int) (x119 : Int) (x120 : Int) (x121 : Int) (x122 : Int) (x123 : Int) (x124 : Int) (x125 : Int) (x126 : Int) (x127 : Int) (x128 : Int) (x129 : Int) (x130 : Int) (x131 : Int) : Tr (Ex × List At); OL_WordLines_9 (l) := O_WordLines_9 (aI l 0) (aB l 1) (aI l 2) (aI l 3) (aI l 4) (aI l 5) (aI l 6) (aI l 7) (aI l 8) (aI l 9) (aI l 10) (aI l 11) (aI l 12) (aI l 13) (aI l 14) (aI l 15) (aI l 16) (aI l 17) (aI l 18) (aI l 19) (aI l 20) (aI l 21) (aI l 22) (aI l 23) (aI l 24) (aI l 25) (aI l 26) (aI l 27) (aI l 28) (aI l 29) (aI l 30) (aI l 31) (aI l 32) (aI l 33) (aI l 34) (aI l 35) (aI l 36) (aI l 37) (aI l 38) (aI l 39) (aI l 40) (aI l 41) (aI l 42) (aI l 43) (aI l 44) (aI l 45) (aI l 46) (aI l 47) (aI l 48) (aI l 49) (aI l 50) (aI l 51) (aI l 52) (aI l 53) (aI l 54) (aI l 55) (aI l 56) (aI l 57) (aI l 58) (aI l 59) (aI l 60) (aI l 61) (aI l 62) (aI l 63) (aI l 64) (aI l 65) (aI l 66) (aI l 67) (aI l 68) (aI l 69) (aI l 70) (aI l 71) (aI l 72) (aI l 73) (aI l 74) (aI l 75) (aI l 76) (aI l 77) (aI l 78) (aI l 79) (aI l 80) (aI l 81) (aI l 82) (aI l 83) (aI l 84) (aI l 85) (aI l 86) (aI l 87) (aI l 88) (aI l 89) (aI l 90) (aI l 91) (aI l 92) (aI l 93) (aI l 94) (aI l 95) (aI l 96) (aI l 97) (aI l 98) (aI l 99) (aI l 100) (aI l 101) (aI l 102) (aI l 103) (aI l 104) (aI l 105) (aI l 106) (aI l 107) (aI l 108) (aI l 109) (aI l 110) (aI l 111) (aI l 112) (aI l 113) (aI l 114) (aI l 115) (aI l 116) (aI l 117) (aI l 118) (aI l 119) (aI l 120) (aI l 121) (aI l 122) (aI l 123) (aI l 124) (aI l 125) (aI l 126) (aI l 127) (aI l 128) (aI l 129) (aI l 130) (aI l 131); μ_WordLines_9 : List At → Nat; rd_WordLines_9 : ∀ l r, (OL_WordLines_9 l).val = some r → RoundA BL_WordLines_9 OL_WordLines_9 μ_WordLines_9 l r -/

end Go.Proofs.Ytgohhgkonbenbaa.G
end

/-
  What the loop over the bytes of two lines comes to.
-/
section
namespace Go.Proofs.Ytgohhgkonbenbaa.G
open Go Go.AM Go.Proofs

noncomputable def pdec (p : Prop) : Bool := @decide p (Classical.propDecidable p)
theorem pdec_yes {p : Prop} (h : p) : pdec p = true := @decide_eq_true p (Classical.propDecidable p) h
theorem of_pdec {p : Prop} (h : pdec p = true) : p := @of_decide_eq_true p (Classical.propDecidable p) h

def goodB (A B : List Int) (w : Int) (k m : Nat) : Prop := (m / 8 ≠ k → A.getD m 0 = B.getD m 0) ∧ (m / 8 = k → IntKind.u64.wrap (B.getD m 0) = (fieldN w.toNat (8 * (m % 8)) 8 : Int))
def preW (A B : List Int) (w k n : Int) : Prop := 0 ≤ n ∧ n ≤ 64 ∧ 0 ≤ w ∧ w < 18446744073709551616 ∧ 0 ≤ k ∧ ∀ m, m < 64 → goodB A B w k.toNat m

theorem fld {w : Int} (h0 : 0 ≤ w) (h1 : w < 18446744073709551616) {c : Nat} (hc : c < 8) : ok_wField_ w (IntKind.i64.wrap (8 * (c : Int))) 8 = true ∧ r_wField__0 w (IntKind.i64.wrap (8 * (c : Int))) 8 = (fieldN w.toNat (8 * c) 8 : Int) := by
  obtain ⟨n, rfl⟩ : ∃ n : Nat, w = n := ⟨w.toNat, by omega⟩
  rw [wrap_i64 (by omega) (by omega)]
  obtain ⟨g1, g2⟩ := wField_eq (n := n) (a := 8 * c) (d := 8) (by omega) (by omega) (by omega)
  have e : ((8 * c : Nat) : Int) = 8 * (c : Int) := by omega
  rw [e] at g1 g2
  exact ⟨g2, g1⟩

section
variable (A B : List Int) (x0 x2 x3 : Int)
def tailW (N : Tr (Ex × List At)) : Tr (Ex × List At) :=
  .br 48 (IntKind.i64.wrap (Int.tdiv x3 8) == x2) (.br 200050 (within x3 64) (.br 0 (ok_wField_ x0 (IntKind.i64.wrap (8 * Int.tmod x3 8)) 8) (.br 60 (IntKind.u64.wrap (B.getD x3.toNat 0) != r_wField__0 x0 (IntKind.i64.wrap (8 * Int.tmod x3 8)) 8) .no N) .no) .no) N
def roundW (N E : Tr (Ex × List At)) : Tr (Ex × List At) :=
  .br 27 (decide (x3 < 64)) (.br 34 (IntKind.i64.wrap (Int.tdiv x3 8) != x2) (.br 200036 (within x3 64) (.br 200039 (within x3 64) (.br 43 (A.getD x3.toNat 0 != B.getD x3.toNat 0) .no (tailW B x0 x2 x3 N)) .no) .no) (tailW B x0 x2 x3 N)) E
end

theorem roundW_sat {A B : List Int} {w k n : Int} {N E : Tr (Ex × List At)} {Q : Ex × List At → Prop} (h : preW A B w k n) (hN : n < 64 → N.sat Q) (hE : E.sat Q) : (roundW A B w k n N E).sat Q := by
  obtain ⟨c0, c1, c2, c3, c4, c5⟩ := h
  refine brD (fun h1 => ?_) (fun _ => hE)
  replace hN := hN h1
  obtain ⟨m, rfl⟩ : ∃ m : Nat, n = m := ⟨n.toNat, by omega⟩
  obtain ⟨q, rfl⟩ : ∃ q : Nat, k = q := ⟨k.toNat, by omega⟩
  have hd : Int.tdiv (m : Int) 8 = ((m / 8 : Nat) : Int) := rfl
  have hm : Int.tmod (m : Int) 8 = ((m % 8 : Nat) : Int) := rfl
  have ht : (m : Int).toNat = m := by omega
  have hq : (q : Int).toNat = q := by omega
  have win : within (m : Int) 64 = true := by simp only [within, Bool.and_eq_true, decide_eq_true_eq]; omega
  obtain ⟨g1, g2⟩ := c5 m (by omega)
  rw [hq] at g1 g2
  obtain ⟨f1, f2⟩ := fld c2 c3 (c := m % 8) (by omega)
  have tl : (tailW B w q m N).sat Q := by
    unfold tailW
    rw [hd, hm, ht, wrap_i64 (x := ((m / 8 : Nat) : Int)) (by omega) (by omega), f1, f2]
    refine brQ (fun h2 => brT win (brT rfl (brF ?_ hN))) (fun _ => hN)
    rw [g2 (by omega)]
    exact bne_self_eq_false _

  rw [hd, ht, wrap_i64 (x := ((m / 8 : Nat) : Int)) (by omega) (by omega)]
  refine brNE (fun h2 => brT win (brT win (brF ?_ tl))) (fun _ => tl)
  rw [g1 (by omega)]
  exact bne_self_eq_false _

noncomputable def OL_WordLines_9 (l : List At) : Tr (Ex × List At) := .br 0 (pdec (preW [(aI l 4), (aI l 5), (aI l 6), (aI l 7), (aI l 8), (aI l 9), (aI l 10), (aI l 11), (aI l 12), (aI l 13), (aI l 14), (aI l 15), (aI l 16), (aI l 17), (aI l 18), (aI l 19), (aI l 20), (aI l 21), (aI l 22), (aI l 23), (aI l 24), (aI l 25), (aI l 26), (aI l 27), (aI l 28), (aI l 29), (aI l 30), (aI l 31), (aI l 32), (aI l 33), (aI l 34), (aI l 35), (aI l 36), (aI l 37), (aI l 38), (aI l 39), (aI l 40), (aI l 41), (aI l 42), (aI l 43), (aI l 44), (aI l 45), (aI l 46), (aI l 47), (aI l 48), (aI l 49), (aI l 50), (aI l 51), (aI l 52), (aI l 53), (aI l 54), (aI l 55), (aI l 56), (aI l 57), (aI l 58), (aI l 59), (aI l 60), (aI l 61), (aI l 62), (aI l 63), (aI l 64), (aI l 65), (aI l 66), (aI l 67)] [(aI l 68), (aI l 69), (aI l 70), (aI l 71), (aI l 72), (aI l 73), (aI l 74), (aI l 75), (aI l 76), (aI l 77), (aI l 78), (aI l 79), (aI l 80), (aI l 81), (aI l 82), (aI l 83), (aI l 84), (aI l 85), (aI l 86), (aI l 87), (aI l 88), (aI l 89), (aI l 90), (aI l 91), (aI l 92), (aI l 93), (aI l 94), (aI l 95), (aI l 96), (aI l 97), (aI l 98), (aI l 99), (aI l 100), (aI l 101), (aI l 102), (aI l 103), (aI l 104), (aI l 105), (aI l 106), (aI l 107), (aI l 108), (aI l 109), (aI l 110), (aI l 111), (aI l 112), (aI l 113), (aI l 114), (aI l 115), (aI l 116), (aI l 117), (aI l 118), (aI l 119), (aI l 120), (aI l 121), (aI l 122), (aI l 123), (aI l 124), (aI l 125), (aI l 126), (aI l 127), (aI l 128), (aI l 129), (aI l 130), (aI l 131)] (aI l 0) (aI l 2) (aI l 3))) (.ok (.exit 0, [.b (aB l 1)])) .no
def μ_WordLines_9 (l : List At) : Nat := (64 - aI l 3).toNat
def lsW (l : List At) (y : Int) : List At := [.i (aI l 0), .b (aB l 1), .i (aI l 2), .i y, .i (aI l 4), .i (aI l 5), .i (aI l 6), .i (aI l 7), .i (aI l 8), .i (aI l 9), .i (aI l 10), .i (aI l 11), .i (aI l 12), .i (aI l 13), .i (aI l 14), .i (aI l 15), .i (aI l 16), .i (aI l 17), .i (aI l 18), .i (aI l 19), .i (aI l 20), .i (aI l 21), .i (aI l 22), .i (aI l 23), .i (aI l 24), .i (aI l 25), .i (aI l 26), .i (aI l 27), .i (aI l 28), .i (aI l 29), .i (aI l 30), .i (aI l 31), .i (aI l 32), .i (aI l 33), .i (aI l 34), .i (aI l 35), .i (aI l 36), .i (aI l 37), .i (aI l 38), .i (aI l 39), .i (aI l 40), .i (aI l 41), .i (aI l 42), .i (aI l 43), .i (aI l 44), .i (aI l 45), .i (aI l 46), .i (aI l 47), .i (aI l 48), .i (aI l 49), .i (aI l 50), .i (aI l 51), .i (aI l 52), .i (aI l 53), .i (aI l 54), .i (aI l 55), .i (aI l 56), .i (aI l 57), .i (aI l 58), .i (aI l 59), .i (aI l 60), .i (aI l 61), .i (aI l 62), .i (aI l 63), .i (aI l 64), .i (aI l 65), .i (aI l 66), .i (aI l 67), .i (aI l 68), .i (aI l 69), .i (aI l 70), .i (aI l 71), .i (aI l 72), .i (aI l 73), .i (aI l 74), .i (aI l 75), .i (aI l 76), .i (aI l 77), .i (aI l 78), .i (aI l 79), .i (aI l 80), .i (aI l 81), .i (aI l 82), .i (aI l 83), .i (aI l 84), .i (aI l 85), .i (aI l 86), .i (aI l 87), .i (aI l 88), .i (aI l 89), .i (aI l 90), .i (aI l 91), .i (aI l 92), .i (aI l 93), .i (aI l 94), .i (aI l 95), .i (aI l 96), .i (aI l 97), .i (aI l 98), .i (aI l 99), .i (aI l 100), .i (aI l 101), .i (aI l 102), .i (aI l 103), .i (aI l 104), .i (aI l 105), .i (aI l 106), .i (aI l 107), .i (aI l 108), .i (aI l 109), .i (aI l 110), .i (aI l 111), .i (aI l 112), .i (aI l 113), .i (aI l 114), .i (aI l 115), .i (aI l 116), .i (aI l 117), .i (aI l 118), .i (aI l 119), .i (aI l 120), .i (aI l 121), .i (aI l 122), .i (aI l 123), .i (aI l 124), .i (aI l 125), .i (aI l 126), .i (aI l 127), .i (aI l 128), .i (aI l 129), .i (aI l 130), .i (aI l 131)]
def preWL (l : List At) (y : Int) : Prop := preW [(aI l 4), (aI l 5), (aI l 6), (aI l 7), (aI l 8), (aI l 9), (aI l 10), (aI l 11), (aI l 12), (aI l 13), (aI l 14), (aI l 15), (aI l 16), (aI l 17), (aI l 18), (aI l 19), (aI l 20), (aI l 21), (aI l 22), (aI l 23), (aI l 24), (aI l 25), (aI l 26), (aI l 27), (aI l 28), (aI l 29), (aI l 30), (aI l 31), (aI l 32), (aI l 33), (aI l 34), (aI l 35), (aI l 36), (aI l 37), (aI l 38), (aI l 39), (aI l 40), (aI l 41), (aI l 42), (aI l 43), (aI l 44), (aI l 45), (aI l 46), (aI l 47), (aI l 48), (aI l 49), (aI l 50), (aI l 51), (aI l 52), (aI l 53), (aI l 54), (aI l 55), (aI l 56), (aI l 57), (aI l 58), (aI l 59), (aI l 60), (aI l 61), (aI l 62), (aI l 63), (aI l 64), (aI l 65), (aI l 66), (aI l 67)] [(aI l 68), (aI l 69), (aI l 70), (aI l 71), (aI l 72), (aI l 73), (aI l 74), (aI l 75), (aI l 76), (aI l 77), (aI l 78), (aI l 79), (aI l 80), (aI l 81), (aI l 82), (aI l 83), (aI l 84), (aI l 85), (aI l 86), (aI l 87), (aI l 88), (aI l 89), (aI l 90), (aI l 91), (aI l 92), (aI l 93), (aI l 94), (aI l 95), (aI l 96), (aI l 97), (aI l 98), (aI l 99), (aI l 100), (aI l 101), (aI l 102), (aI l 103), (aI l 104), (aI l 105), (aI l 106), (aI l 107), (aI l 108), (aI l 109), (aI l 110), (aI l 111), (aI l 112), (aI l 113), (aI l 114), (aI l 115), (aI l 116), (aI l 117), (aI l 118), (aI l 119), (aI l 120), (aI l 121), (aI l 122), (aI l 123), (aI l 124), (aI l 125), (aI l 126), (aI l 127), (aI l 128), (aI l 129), (aI l 130), (aI l 131)] (aI l 0) (aI l 2) y
theorem eN_WordLines_9 (l : List At) : BL_WordLines_9 l = roundW [(aI l 4), (aI l 5), (aI l 6), (aI l 7), (aI l 8), (aI l 9), (aI l 10), (aI l 11), (aI l 12), (aI l 13), (aI l 14), (aI l 15), (aI l 16), (aI l 17), (aI l 18), (aI l 19), (aI l 20), (aI l 21), (aI l 22), (aI l 23), (aI l 24), (aI l 25), (aI l 26), (aI l 27), (aI l 28), (aI l 29), (aI l 30), (aI l 31), (aI l 32), (aI l 33), (aI l 34), (aI l 35), (aI l 36), (aI l 37), (aI l 38), (aI l 39), (aI l 40), (aI l 41), (aI l 42), (aI l 43), (aI l 44), (aI l 45), (aI l 46), (aI l 47), (aI l 48), (aI l 49), (aI l 50), (aI l 51), (aI l 52), (aI l 53), (aI l 54), (aI l 55), (aI l 56), (aI l 57), (aI l 58), (aI l 59), (aI l 60), (aI l 61), (aI l 62), (aI l 63), (aI l 64), (aI l 65), (aI l 66), (aI l 67)] [(aI l 68), (aI l 69), (aI l 70), (aI l 71), (aI l 72), (aI l 73), (aI l 74), (aI l 75), (aI l 76), (aI l 77), (aI l 78), (aI l 79), (aI l 80), (aI l 81), (aI l 82), (aI l 83), (aI l 84), (aI l 85), (aI l 86), (aI l 87), (aI l 88), (aI l 89), (aI l 90), (aI l 91), (aI l 92), (aI l 93), (aI l 94), (aI l 95), (aI l 96), (aI l 97), (aI l 98), (aI l 99), (aI l 100), (aI l 101), (aI l 102), (aI l 103), (aI l 104), (aI l 105), (aI l 106), (aI l 107), (aI l 108), (aI l 109), (aI l 110), (aI l 111), (aI l 112), (aI l 113), (aI l 114), (aI l 115), (aI l 116), (aI l 117), (aI l 118), (aI l 119), (aI l 120), (aI l 121), (aI l 122), (aI l 123), (aI l 124), (aI l 125), (aI l 126), (aI l 127), (aI l 128), (aI l 129), (aI l 130), (aI l 131)] (aI l 0) (aI l 2) (aI l 3) (.ok (.normal, lsW l (IntKind.i64.wrap (aI l 3 + 1)))) (.ok (.exit 0, [.b (aB l 1)])) := by kernel_rfl
theorem OL_lsW (l : List At) (y : Int) : OL_WordLines_9 (lsW l y) = .br 0 (pdec (preWL l y)) (.ok (.exit 0, [.b (aB l 1)])) .no := by kernel_rfl
theorem OL_lsW_val {l : List At} {y : Int} (h : preWL l y) : (OL_WordLines_9 (lsW l y)).val = some (.exit 0, [.b (aB l 1)]) := by
  rw [OL_lsW]
  exact br_t (g := 0) (pdec_yes h)

theorem rd_WordLines_9 : ∀ l r, (OL_WordLines_9 l).val = some r → RoundS BL_WordLines_9 OL_WordLines_9 μ_WordLines_9 l r := by
  intro l r h
  unfold OL_WordLines_9 at h
  obtain ⟨hc, h⟩ := guard_val h
  have hp := of_pdec hc
  have hr := val_ok h
  obtain ⟨c0, c1, c2, c3, c4, c5⟩ := hp
  have w1 : IntKind.i64.wrap (aI l 3 + 1) = aI l 3 + 1 := wrap_i64 (by omega) (by omega)
  unfold RoundS
  rw [eN_WordLines_9, w1]
  refine roundW_sat ⟨c0, c1, c2, c3, c4, c5⟩ (fun h1 => ?_) ?_
  · refine on_ (lsW l (aI l 3 + 1)) _ (AtsEq.refl _) ?_ (OL_lsW_val ⟨by omega, by omega, c2, c3, c4, c5⟩) (by rw [← hr]) (by rw [← hr]; exact AtsEq.refl _)
    show (64 - (aI l 3 + 1)).toNat < (64 - aI l 3).toNat
    omega
  · rw [← hr]
    exact out_ (by simp) rfl (AtsEq.refl _)
end Go.Proofs.Ytgohhgkonbenbaa.G
end

/-
  What functions of the seat compute, printed by a program from the explorer.
-/
section
namespace Go.Proofs.Ytgohhgkonbenbaa.G
open Go Go.AM Go.Proofs
theorem f_WordLines_9 : LoopF Try.prog 0 (loopAt Try.f9 9) (loopFn 0 lsh_WordLines_9 xs_WordLines_9 OL_WordLines_9) :=
  loop_sat (sy := y_WordLines_9) (fuel := 100) (Lp := noLoops) o_shown mixed (loopsOK_at (noLoops_ok _) 9) rfl eB_WordLines_9 rd_WordLines_9
noncomputable def Lp_WordLines_9 : Loops := Loops.set noLoops 9 (loopFn 0 lsh_WordLines_9 xs_WordLines_9 OL_WordLines_9)
theorem lk_WordLines_9 : LoopsFn Try.prog 0 Lp_WordLines_9 Try.f9 := loopsFn_set (noLoops_ok _) (by kernel_rfl) f_WordLines_9

/-! ### WordLines -/

noncomputable def ish_WordLines : FSh := ⟨[.v true [.k (.n .u64), .k (.n .u64), .k (.n .u64), .k (.n .u64), .k (.n .u64), .k (.n .u64), .k (.n .u64), .k (.n .u64)], .v false [.k (.n .i64)], .v false [.k (.n .u64)]], []⟩
noncomputable def osh_WordLines : FSh := ⟨[.v false [.k .b]], []⟩
noncomputable def T_WordLines (x0 : Int) (x1 : Int) (x2 : Int) (x3 : Int) (x4 : Int) (x5 : Int) (x6 : Int) (x7 : Int) (x8 : Int) (x9 : Int) : Tr (List At) :=
 .br 0 (true)
 (.br 16 (decide (Int.tmod x8 (8 : Int) < (0 : Int)))
 (.br 200023 (within (IntKind.wrap IntKind.i64 ((0 : Int) - Int.tmod x8 (8 : Int))) (8 : Nat))
 (.br 0 (pdec (preW [r_wordBytes_0 x0, r_wordBytes_1 x0, r_wordBytes_2 x0, r_wordBytes_3 x0, r_wordBytes_4 x0, r_wordBytes_5 x0, r_wordBytes_6 x0, r_wordBytes_7 x0, r_wordBytes_8 x1, r_wordBytes_9 x1, r_wordBytes_10 x1, r_wordBytes_11 x1, r_wordBytes_12 x1, r_wordBytes_13 x1, r_wordBytes_14 x1, r_wordBytes_15 x1, r_wordBytes_16 x2, r_wordBytes_17 x2, r_wordBytes_18 x2, r_wordBytes_19 x2, r_wordBytes_20 x2, r_wordBytes_21 x2, r_wordBytes_22 x2, r_wordBytes_23 x2, r_wordBytes_24 x3, r_wordBytes_25 x3, r_wordBytes_26 x3, r_wordBytes_27 x3, r_wordBytes_28 x3, r_wordBytes_29 x3, r_wordBytes_30 x3, r_wordBytes_31 x3, r_wordBytes_32 x4, r_wordBytes_33 x4, r_wordBytes_34 x4, r_wordBytes_35 x4, r_wordBytes_36 x4, r_wordBytes_37 x4, r_wordBytes_38 x4, r_wordBytes_39 x4, r_wordBytes_40 x5, r_wordBytes_41 x5, r_wordBytes_42 x5, r_wordBytes_43 x5, r_wordBytes_44 x5, r_wordBytes_45 x5, r_wordBytes_46 x5, r_wordBytes_47 x5, r_wordBytes_48 x6, r_wordBytes_49 x6, r_wordBytes_50 x6, r_wordBytes_51 x6, r_wordBytes_52 x6, r_wordBytes_53 x6, r_wordBytes_54 x6, r_wordBytes_55 x6, r_wordBytes_56 x7, r_wordBytes_57 x7, r_wordBytes_58 x7, r_wordBytes_59 x7, r_wordBytes_60 x7, r_wordBytes_61 x7, r_wordBytes_62 x7, r_wordBytes_63 x7] [r_wordBytes_0 (bif Nat.beq (Int.toNat (IntKind.wrap IntKind.i64 ((0 : Int) - Int.tmod x8 (8 : Int)))) (0 : Nat) then x9 else x0), r_wordBytes_1 (bif Nat.beq (Int.toNat (IntKind.wrap IntKind.i64 ((0 : Int) - Int.tmod x8 (8 : Int)))) (0 : Nat) then x9 else x0), r_wordBytes_2 (bif Nat.beq (Int.toNat (IntKind.wrap IntKind.i64 ((0 : Int) - Int.tmod x8 (8 : Int)))) (0 : Nat) then x9 else x0), r_wordBytes_3 (bif Nat.beq (Int.toNat (IntKind.wrap IntKind.i64 ((0 : Int) - Int.tmod x8 (8 : Int)))) (0 : Nat) then x9 else x0), r_wordBytes_4 (bif Nat.beq (Int.toNat (IntKind.wrap IntKind.i64 ((0 : Int) - Int.tmod x8 (8 : Int)))) (0 : Nat) then x9 else x0), r_wordBytes_5 (bif Nat.beq (Int.toNat (IntKind.wrap IntKind.i64 ((0 : Int) - Int.tmod x8 (8 : Int)))) (0 : Nat) then x9 else x0), r_wordBytes_6 (bif Nat.beq (Int.toNat (IntKind.wrap IntKind.i64 ((0 : Int) - Int.tmod x8 (8 : Int)))) (0 : Nat) then x9 else x0), r_wordBytes_7 (bif Nat.beq (Int.toNat (IntKind.wrap IntKind.i64 ((0 : Int) - Int.tmod x8 (8 : Int)))) (0 : Nat) then x9 else x0), r_wordBytes_8 (bif Nat.beq (Int.toNat (IntKind.wrap IntKind.i64 ((0 : Int) - Int.tmod x8 (8 : Int)))) (1 : Nat) then x9 else x1), r_wordBytes_9 (bif Nat.beq (Int.toNat (IntKind.wrap IntKind.i64 ((0 : Int) - Int.tmod x8 (8 : Int)))) (1 : Nat) then x9 else x1), r_wordBytes_10 (bif Nat.beq (Int.toNat (IntKind.wrap IntKind.i64 ((0 : Int) - Int.tmod x8 (8 : Int)))) (1 : Nat) then x9 else x1), r_wordBytes_11 (bif Nat.beq (Int.toNat (IntKind.wrap IntKind.i64 ((0 : Int) - Int.tmod x8 (8 : Int)))) (1 : Nat) then x9 else x1), r_wordBytes_12 (bif Nat.beq (Int.toNat (IntKind.wrap IntKind.i64 ((0 : Int) - Int.tmod x8 (8 : Int)))) (1 : Nat) then x9 else x1), r_wordBytes_13 (bif Nat.beq (Int.toNat (IntKind.wrap IntKind.i64 ((0 : Int) - Int.tmod x8 (8 : Int)))) (1 : Nat) then x9 else x1), r_wordBytes_14 (bif Nat.beq (Int.toNat (IntKind.wrap IntKind.i64 ((0 : Int) - Int.tmod x8 (8 : Int)))) (1 : Nat) then x9 else x1), r_wordBytes_15 (bif Nat.beq (Int.toNat (IntKind.wrap IntKind.i64 ((0 : Int) - Int.tmod x8 (8 : Int)))) (1 : Nat) then x9 else x1), r_wordBytes_16 (bif Nat.beq (Int.toNat (IntKind.wrap IntKind.i64 ((0 : Int) - Int.tmod x8 (8 : Int)))) (2 : Nat) then x9 else x2), r_wordBytes_17 (bif Nat.beq (Int.toNat (IntKind.wrap IntKind.i64 ((0 : Int) - Int.tmod x8 (8 : Int)))) (2 : Nat) then x9 else x2), r_wordBytes_18 (bif Nat.beq (Int.toNat (IntKind.wrap IntKind.i64 ((0 : Int) - Int.tmod x8 (8 : Int)))) (2 : Nat) then x9 else x2), r_wordBytes_19 (bif Nat.beq (Int.toNat (IntKind.wrap IntKind.i64 ((0 : Int) - Int.tmod x8 (8 : Int)))) (2 : Nat) then x9 else x2), r_wordBytes_20 (bif Nat.beq (Int.toNat (IntKind.wrap IntKind.i64 ((0 : Int) - Int.tmod x8 (8 : Int)))) (2 : Nat) then x9 else x2), r_wordBytes_21 (bif Nat.beq (Int.toNat (IntKind.wrap IntKind.i64 ((0 : Int) - Int.tmod x8 (8 : Int)))) (2 : Nat) then x9 else x2), r_wordBytes_22 (bif Nat.beq (Int.toNat (IntKind.wrap IntKind.i64 ((0 : Int) - Int.tmod x8 (8 : Int)))) (2 : Nat) then x9 else x2), r_wordBytes_23 (bif Nat.beq (Int.toNat (IntKind.wrap IntKind.i64 ((0 : Int) - Int.tmod x8 (8 : Int)))) (2 : Nat) then x9 else x2), r_wordBytes_24 (bif Nat.beq (Int.toNat (IntKind.wrap IntKind.i64 ((0 : Int) - Int.tmod x8 (8 : Int)))) (3 : Nat) then x9 else x3), r_wordBytes_25 (bif Nat.beq (Int.toNat (IntKind.wrap IntKind.i64 ((0 : Int) - Int.tmod x8 (8 : Int)))) (3 : Nat) then x9 else x3), r_wordBytes_26 (bif Nat.beq (Int.toNat (IntKind.wrap IntKind.i64 ((0 : Int) - Int.tmod x8 (8 : Int)))) (3 : Nat) then x9 else x3), r_wordBytes_27 (bif Nat.beq (Int.toNat (IntKind.wrap IntKind.i64 ((0 : Int) - Int.tmod x8 (8 : Int)))) (3 : Nat) then x9 else x3), r_wordBytes_28 (bif Nat.beq (Int.toNat (IntKind.wrap IntKind.i64 ((0 : Int) - Int.tmod x8 (8 : Int)))) (3 : Nat) then x9 else x3), r_wordBytes_29 (bif Nat.beq (Int.toNat (IntKind.wrap IntKind.i64 ((0 : Int) - Int.tmod x8 (8 : Int)))) (3 : Nat) then x9 else x3), r_wordBytes_30 (bif Nat.beq (Int.toNat (IntKind.wrap IntKind.i64 ((0 : Int) - Int.tmod x8 (8 : Int)))) (3 : Nat) then x9 else x3), r_wordBytes_31 (bif Nat.beq (Int.toNat (IntKind.wrap IntKind.i64 ((0 : Int) - Int.tmod x8 (8 : Int)))) (3 : Nat) then x9 else x3), r_wordBytes_32 (bif Nat.beq (Int.toNat (IntKind.wrap IntKind.i64 ((0 : Int) - Int.tmod x8 (8 : Int)))) (4 : Nat) then x9 else x4), r_wordBytes_33 (bif Nat.beq (Int.toNat (IntKind.wrap IntKind.i64 ((0 : Int) - Int.tmod x8 (8 : Int)))) (4 : Nat) then x9 else x4), r_wordBytes_34 (bif Nat.beq (Int.toNat (IntKind.wrap IntKind.i64 ((0 : Int) - Int.tmod x8 (8 : Int)))) (4 : Nat) then x9 else x4), r_wordBytes_35 (bif Nat.beq (Int.toNat (IntKind.wrap IntKind.i64 ((0 : Int) - Int.tmod x8 (8 : Int)))) (4 : Nat) then x9 else x4), r_wordBytes_36 (bif Nat.beq (Int.toNat (IntKind.wrap IntKind.i64 ((0 : Int) - Int.tmod x8 (8 : Int)))) (4 : Nat) then x9 else x4), r_wordBytes_37 (bif Nat.beq (Int.toNat (IntKind.wrap IntKind.i64 ((0 : Int) - Int.tmod x8 (8 : Int)))) (4 : Nat) then x9 else x4), r_wordBytes_38 (bif Nat.beq (Int.toNat (IntKind.wrap IntKind.i64 ((0 : Int) - Int.tmod x8 (8 : Int)))) (4 : Nat) then x9 else x4), r_wordBytes_39 (bif Nat.beq (Int.toNat (IntKind.wrap IntKind.i64 ((0 : Int) - Int.tmod x8 (8 : Int)))) (4 : Nat) then x9 else x4), r_wordBytes_40 (bif Nat.beq (Int.toNat (IntKind.wrap IntKind.i64 ((0 : Int) - Int.tmod x8 (8 : Int)))) (5 : Nat) then x9 else x5), r_wordBytes_41 (bif Nat.beq (Int.toNat (IntKind.wrap IntKind.i64 ((0 : Int) - Int.tmod x8 (8 : Int)))) (5 : Nat) then x9 else x5), r_wordBytes_42 (bif Nat.beq (Int.toNat (IntKind.wrap IntKind.i64 ((0 : Int) - Int.tmod x8 (8 : Int)))) (5 : Nat) then x9 else x5), r_wordBytes_43 (bif Nat.beq (Int.toNat (IntKind.wrap IntKind.i64 ((0 : Int) - Int.tmod x8 (8 : Int)))) (5 : Nat) then x9 else x5), r_wordBytes_44 (bif Nat.beq (Int.toNat (IntKind.wrap IntKind.i64 ((0 : Int) - Int.tmod x8 (8 : Int)))) (5 : Nat) then x9 else x5), r_wordBytes_45 (bif Nat.beq (Int.toNat (IntKind.wrap IntKind.i64 ((0 : Int) - Int.tmod x8 (8 : Int)))) (5 : Nat) then x9 else x5), r_wordBytes_46 (bif Nat.beq (Int.toNat (IntKind.wrap IntKind.i64 ((0 : Int) - Int.tmod x8 (8 : Int)))) (5 : Nat) then x9 else x5), r_wordBytes_47 (bif Nat.beq (Int.toNat (IntKind.wrap IntKind.i64 ((0 : Int) - Int.tmod x8 (8 : Int)))) (5 : Nat) then x9 else x5), r_wordBytes_48 (bif Nat.beq (Int.toNat (IntKind.wrap IntKind.i64 ((0 : Int) - Int.tmod x8 (8 : Int)))) (6 : Nat) then x9 else x6), r_wordBytes_49 (bif Nat.beq (Int.toNat (IntKind.wrap IntKind.i64 ((0 : Int) - Int.tmod x8 (8 : Int)))) (6 : Nat) then x9 else x6), r_wordBytes_50 (bif Nat.beq (Int.toNat (IntKind.wrap IntKind.i64 ((0 : Int) - Int.tmod x8 (8 : Int)))) (6 : Nat) then x9 else x6), r_wordBytes_51 (bif Nat.beq (Int.toNat (IntKind.wrap IntKind.i64 ((0 : Int) - Int.tmod x8 (8 : Int)))) (6 : Nat) then x9 else x6), r_wordBytes_52 (bif Nat.beq (Int.toNat (IntKind.wrap IntKind.i64 ((0 : Int) - Int.tmod x8 (8 : Int)))) (6 : Nat) then x9 else x6), r_wordBytes_53 (bif Nat.beq (Int.toNat (IntKind.wrap IntKind.i64 ((0 : Int) - Int.tmod x8 (8 : Int)))) (6 : Nat) then x9 else x6), r_wordBytes_54 (bif Nat.beq (Int.toNat (IntKind.wrap IntKind.i64 ((0 : Int) - Int.tmod x8 (8 : Int)))) (6 : Nat) then x9 else x6), r_wordBytes_55 (bif Nat.beq (Int.toNat (IntKind.wrap IntKind.i64 ((0 : Int) - Int.tmod x8 (8 : Int)))) (6 : Nat) then x9 else x6), r_wordBytes_56 (bif Nat.beq (Int.toNat (IntKind.wrap IntKind.i64 ((0 : Int) - Int.tmod x8 (8 : Int)))) (7 : Nat) then x9 else x7), r_wordBytes_57 (bif Nat.beq (Int.toNat (IntKind.wrap IntKind.i64 ((0 : Int) - Int.tmod x8 (8 : Int)))) (7 : Nat) then x9 else x7), r_wordBytes_58 (bif Nat.beq (Int.toNat (IntKind.wrap IntKind.i64 ((0 : Int) - Int.tmod x8 (8 : Int)))) (7 : Nat) then x9 else x7), r_wordBytes_59 (bif Nat.beq (Int.toNat (IntKind.wrap IntKind.i64 ((0 : Int) - Int.tmod x8 (8 : Int)))) (7 : Nat) then x9 else x7), r_wordBytes_60 (bif Nat.beq (Int.toNat (IntKind.wrap IntKind.i64 ((0 : Int) - Int.tmod x8 (8 : Int)))) (7 : Nat) then x9 else x7), r_wordBytes_61 (bif Nat.beq (Int.toNat (IntKind.wrap IntKind.i64 ((0 : Int) - Int.tmod x8 (8 : Int)))) (7 : Nat) then x9 else x7), r_wordBytes_62 (bif Nat.beq (Int.toNat (IntKind.wrap IntKind.i64 ((0 : Int) - Int.tmod x8 (8 : Int)))) (7 : Nat) then x9 else x7), r_wordBytes_63 (bif Nat.beq (Int.toNat (IntKind.wrap IntKind.i64 ((0 : Int) - Int.tmod x8 (8 : Int)))) (7 : Nat) then x9 else x7)] x9 (IntKind.wrap IntKind.i64 ((0 : Int) - Int.tmod x8 (8 : Int))) (0 : Int)))
 (.ok [(.b (true))])
 (.no))
 (.no))
 (.br 200023 (within (Int.tmod x8 (8 : Int)) (8 : Nat))
 (.br 0 (pdec (preW [r_wordBytes_0 x0, r_wordBytes_1 x0, r_wordBytes_2 x0, r_wordBytes_3 x0, r_wordBytes_4 x0, r_wordBytes_5 x0, r_wordBytes_6 x0, r_wordBytes_7 x0, r_wordBytes_8 x1, r_wordBytes_9 x1, r_wordBytes_10 x1, r_wordBytes_11 x1, r_wordBytes_12 x1, r_wordBytes_13 x1, r_wordBytes_14 x1, r_wordBytes_15 x1, r_wordBytes_16 x2, r_wordBytes_17 x2, r_wordBytes_18 x2, r_wordBytes_19 x2, r_wordBytes_20 x2, r_wordBytes_21 x2, r_wordBytes_22 x2, r_wordBytes_23 x2, r_wordBytes_24 x3, r_wordBytes_25 x3, r_wordBytes_26 x3, r_wordBytes_27 x3, r_wordBytes_28 x3, r_wordBytes_29 x3, r_wordBytes_30 x3, r_wordBytes_31 x3, r_wordBytes_32 x4, r_wordBytes_33 x4, r_wordBytes_34 x4, r_wordBytes_35 x4, r_wordBytes_36 x4, r_wordBytes_37 x4, r_wordBytes_38 x4, r_wordBytes_39 x4, r_wordBytes_40 x5, r_wordBytes_41 x5, r_wordBytes_42 x5, r_wordBytes_43 x5, r_wordBytes_44 x5, r_wordBytes_45 x5, r_wordBytes_46 x5, r_wordBytes_47 x5, r_wordBytes_48 x6, r_wordBytes_49 x6, r_wordBytes_50 x6, r_wordBytes_51 x6, r_wordBytes_52 x6, r_wordBytes_53 x6, r_wordBytes_54 x6, r_wordBytes_55 x6, r_wordBytes_56 x7, r_wordBytes_57 x7, r_wordBytes_58 x7, r_wordBytes_59 x7, r_wordBytes_60 x7, r_wordBytes_61 x7, r_wordBytes_62 x7, r_wordBytes_63 x7] [r_wordBytes_0 (bif Nat.beq (Int.toNat (Int.tmod x8 (8 : Int))) (0 : Nat) then x9 else x0), r_wordBytes_1 (bif Nat.beq (Int.toNat (Int.tmod x8 (8 : Int))) (0 : Nat) then x9 else x0), r_wordBytes_2 (bif Nat.beq (Int.toNat (Int.tmod x8 (8 : Int))) (0 : Nat) then x9 else x0), r_wordBytes_3 (bif Nat.beq (Int.toNat (Int.tmod x8 (8 : Int))) (0 : Nat) then x9 else x0), r_wordBytes_4 (bif Nat.beq (Int.toNat (Int.tmod x8 (8 : Int))) (0 : Nat) then x9 else x0), r_wordBytes_5 (bif Nat.beq (Int.toNat (Int.tmod x8 (8 : Int))) (0 : Nat) then x9 else x0), r_wordBytes_6 (bif Nat.beq (Int.toNat (Int.tmod x8 (8 : Int))) (0 : Nat) then x9 else x0), r_wordBytes_7 (bif Nat.beq (Int.toNat (Int.tmod x8 (8 : Int))) (0 : Nat) then x9 else x0), r_wordBytes_8 (bif Nat.beq (Int.toNat (Int.tmod x8 (8 : Int))) (1 : Nat) then x9 else x1), r_wordBytes_9 (bif Nat.beq (Int.toNat (Int.tmod x8 (8 : Int))) (1 : Nat) then x9 else x1), r_wordBytes_10 (bif Nat.beq (Int.toNat (Int.tmod x8 (8 : Int))) (1 : Nat) then x9 else x1), r_wordBytes_11 (bif Nat.beq (Int.toNat (Int.tmod x8 (8 : Int))) (1 : Nat) then x9 else x1), r_wordBytes_12 (bif Nat.beq (Int.toNat (Int.tmod x8 (8 : Int))) (1 : Nat) then x9 else x1), r_wordBytes_13 (bif Nat.beq (Int.toNat (Int.tmod x8 (8 : Int))) (1 : Nat) then x9 else x1), r_wordBytes_14 (bif Nat.beq (Int.toNat (Int.tmod x8 (8 : Int))) (1 : Nat) then x9 else x1), r_wordBytes_15 (bif Nat.beq (Int.toNat (Int.tmod x8 (8 : Int))) (1 : Nat) then x9 else x1), r_wordBytes_16 (bif Nat.beq (Int.toNat (Int.tmod x8 (8 : Int))) (2 : Nat) then x9 else x2), r_wordBytes_17 (bif Nat.beq (Int.toNat (Int.tmod x8 (8 : Int))) (2 : Nat) then x9 else x2), r_wordBytes_18 (bif Nat.beq (Int.toNat (Int.tmod x8 (8 : Int))) (2 : Nat) then x9 else x2), r_wordBytes_19 (bif Nat.beq (Int.toNat (Int.tmod x8 (8 : Int))) (2 : Nat) then x9 else x2), r_wordBytes_20 (bif Nat.beq (Int.toNat (Int.tmod x8 (8 : Int))) (2 : Nat) then x9 else x2), r_wordBytes_21 (bif Nat.beq (Int.toNat (Int.tmod x8 (8 : Int))) (2 : Nat) then x9 else x2), r_wordBytes_22 (bif Nat.beq (Int.toNat (Int.tmod x8 (8 : Int))) (2 : Nat) then x9 else x2), r_wordBytes_23 (bif Nat.beq (Int.toNat (Int.tmod x8 (8 : Int))) (2 : Nat) then x9 else x2), r_wordBytes_24 (bif Nat.beq (Int.toNat (Int.tmod x8 (8 : Int))) (3 : Nat) then x9 else x3), r_wordBytes_25 (bif Nat.beq (Int.toNat (Int.tmod x8 (8 : Int))) (3 : Nat) then x9 else x3), r_wordBytes_26 (bif Nat.beq (Int.toNat (Int.tmod x8 (8 : Int))) (3 : Nat) then x9 else x3), r_wordBytes_27 (bif Nat.beq (Int.toNat (Int.tmod x8 (8 : Int))) (3 : Nat) then x9 else x3), r_wordBytes_28 (bif Nat.beq (Int.toNat (Int.tmod x8 (8 : Int))) (3 : Nat) then x9 else x3), r_wordBytes_29 (bif Nat.beq (Int.toNat (Int.tmod x8 (8 : Int))) (3 : Nat) then x9 else x3), r_wordBytes_30 (bif Nat.beq (Int.toNat (Int.tmod x8 (8 : Int))) (3 : Nat) then x9 else x3), r_wordBytes_31 (bif Nat.beq (Int.toNat (Int.tmod x8 (8 : Int))) (3 : Nat) then x9 else x3), r_wordBytes_32 (bif Nat.beq (Int.toNat (Int.tmod x8 (8 : Int))) (4 : Nat) then x9 else x4), r_wordBytes_33 (bif Nat.beq (Int.toNat (Int.tmod x8 (8 : Int))) (4 : Nat) then x9 else x4), r_wordBytes_34 (bif Nat.beq (Int.toNat (Int.tmod x8 (8 : Int))) (4 : Nat) then x9 else x4), r_wordBytes_35 (bif Nat.beq (Int.toNat (Int.tmod x8 (8 : Int))) (4 : Nat) then x9 else x4), r_wordBytes_36 (bif Nat.beq (Int.toNat (Int.tmod x8 (8 : Int))) (4 : Nat) then x9 else x4), r_wordBytes_37 (bif Nat.beq (Int.toNat (Int.tmod x8 (8 : Int))) (4 : Nat) then x9 else x4), r_wordBytes_38 (bif Nat.beq (Int.toNat (Int.tmod x8 (8 : Int))) (4 : Nat) then x9 else x4), r_wordBytes_39 (bif Nat.beq (Int.toNat (Int.tmod x8 (8 : Int))) (4 : Nat) then x9 else x4), r_wordBytes_40 (bif Nat.beq (Int.toNat (Int.tmod x8 (8 : Int))) (5 : Nat) then x9 else x5), r_wordBytes_41 (bif Nat.beq (Int.toNat (Int.tmod x8 (8 : Int))) (5 : Nat) then x9 else x5), r_wordBytes_42 (bif Nat.beq (Int.toNat (Int.tmod x8 (8 : Int))) (5 : Nat) then x9 else x5), r_wordBytes_43 (bif Nat.beq (Int.toNat (Int.tmod x8 (8 : Int))) (5 : Nat) then x9 else x5), r_wordBytes_44 (bif Nat.beq (Int.toNat (Int.tmod x8 (8 : Int))) (5 : Nat) then x9 else x5), r_wordBytes_45 (bif Nat.beq (Int.toNat (Int.tmod x8 (8 : Int))) (5 : Nat) then x9 else x5), r_wordBytes_46 (bif Nat.beq (Int.toNat (Int.tmod x8 (8 : Int))) (5 : Nat) then x9 else x5), r_wordBytes_47 (bif Nat.beq (Int.toNat (Int.tmod x8 (8 : Int))) (5 : Nat) then x9 else x5), r_wordBytes_48 (bif Nat.beq (Int.toNat (Int.tmod x8 (8 : Int))) (6 : Nat) then x9 else x6), r_wordBytes_49 (bif Nat.beq (Int.toNat (Int.tmod x8 (8 : Int))) (6 : Nat) then x9 else x6), r_wordBytes_50 (bif Nat.beq (Int.toNat (Int.tmod x8 (8 : Int))) (6 : Nat) then x9 else x6), r_wordBytes_51 (bif Nat.beq (Int.toNat (Int.tmod x8 (8 : Int))) (6 : Nat) then x9 else x6), r_wordBytes_52 (bif Nat.beq (Int.toNat (Int.tmod x8 (8 : Int))) (6 : Nat) then x9 else x6), r_wordBytes_53 (bif Nat.beq (Int.toNat (Int.tmod x8 (8 : Int))) (6 : Nat) then x9 else x6), r_wordBytes_54 (bif Nat.beq (Int.toNat (Int.tmod x8 (8 : Int))) (6 : Nat) then x9 else x6), r_wordBytes_55 (bif Nat.beq (Int.toNat (Int.tmod x8 (8 : Int))) (6 : Nat) then x9 else x6), r_wordBytes_56 (bif Nat.beq (Int.toNat (Int.tmod x8 (8 : Int))) (7 : Nat) then x9 else x7), r_wordBytes_57 (bif Nat.beq (Int.toNat (Int.tmod x8 (8 : Int))) (7 : Nat) then x9 else x7), r_wordBytes_58 (bif Nat.beq (Int.toNat (Int.tmod x8 (8 : Int))) (7 : Nat) then x9 else x7), r_wordBytes_59 (bif Nat.beq (Int.toNat (Int.tmod x8 (8 : Int))) (7 : Nat) then x9 else x7), r_wordBytes_60 (bif Nat.beq (Int.toNat (Int.tmod x8 (8 : Int))) (7 : Nat) then x9 else x7), r_wordBytes_61 (bif Nat.beq (Int.toNat (Int.tmod x8 (8 : Int))) (7 : Nat) then x9 else x7), r_wordBytes_62 (bif Nat.beq (Int.toNat (Int.tmod x8 (8 : Int))) (7 : Nat) then x9 else x7), r_wordBytes_63 (bif Nat.beq (Int.toNat (Int.tmod x8 (8 : Int))) (7 : Nat) then x9 else x7)] x9 (Int.tmod x8 (8 : Int)) (0 : Int)))
 (.ok [(.b (true))])
 (.no))
 (.no)))
 (.no)
noncomputable def y_WordLines : Nat → Option Nat := (syOf3 [16] [] [23])
noncomputable def TL_WordLines (l : List At) : Tr (List At) := T_WordLines (aI l 0) (aI l 1) (aI l 2) (aI l 3) (aI l 4) (aI l 5) (aI l 6) (aI l 7) (aI l 8) (aI l 9)
theorem e_WordLines (l : List At) : (call Try.prog Γ_shown y_WordLines Lp_WordLines_9 100 Try.f9 (mkV ish_WordLines l) (mkH ish_WordLines l)).bind (leafO ish_WordLines.hp.length ⟨[.v false [.k .b]], List.replicate ish_WordLines.hp.length .no⟩) = TL_WordLines l := by kernel_rfl

end Go.Proofs.Ytgohhgkonbenbaa.G
end

/-
  The plain law of WordLines.
-/
section
namespace Go.Proofs.Ytgohhgkonbenbaa.G
open Go Go.AM Go.Proofs

def byI (x p : Int) : Int := IntKind.u8.wrap (Int.fdiv x p)
def bytesL (f : Nat → Int) : List Int := [byI (f 0) 1, byI (f 0) 256, byI (f 0) 65536, byI (f 0) 16777216, byI (f 0) 4294967296, byI (f 0) 1099511627776, byI (f 0) 281474976710656, byI (f 0) 72057594037927936, byI (f 1) 1, byI (f 1) 256, byI (f 1) 65536, byI (f 1) 16777216, byI (f 1) 4294967296, byI (f 1) 1099511627776, byI (f 1) 281474976710656, byI (f 1) 72057594037927936, byI (f 2) 1, byI (f 2) 256, byI (f 2) 65536, byI (f 2) 16777216, byI (f 2) 4294967296, byI (f 2) 1099511627776, byI (f 2) 281474976710656, byI (f 2) 72057594037927936, byI (f 3) 1, byI (f 3) 256, byI (f 3) 65536, byI (f 3) 16777216, byI (f 3) 4294967296, byI (f 3) 1099511627776, byI (f 3) 281474976710656, byI (f 3) 72057594037927936, byI (f 4) 1, byI (f 4) 256, byI (f 4) 65536, byI (f 4) 16777216, byI (f 4) 4294967296, byI (f 4) 1099511627776, byI (f 4) 281474976710656, byI (f 4) 72057594037927936, byI (f 5) 1, byI (f 5) 256, byI (f 5) 65536, byI (f 5) 16777216, byI (f 5) 4294967296, byI (f 5) 1099511627776, byI (f 5) 281474976710656, byI (f 5) 72057594037927936, byI (f 6) 1, byI (f 6) 256, byI (f 6) 65536, byI (f 6) 16777216, byI (f 6) 4294967296, byI (f 6) 1099511627776, byI (f 6) 281474976710656, byI (f 6) 72057594037927936, byI (f 7) 1, byI (f 7) 256, byI (f 7) 65536, byI (f 7) 16777216, byI (f 7) 4294967296, byI (f 7) 1099511627776, byI (f 7) 281474976710656, byI (f 7) 72057594037927936]
theorem bytes_at (f : Nat → Int) : ∀ m : Nat, m < 64 → (bytesL f).getD m 0 = byI (f (m / 8)) (((2 ^ (8 * (m % 8)) : Nat)) : Int)
  | 0, _ => by kernel_rfl
  | 1, _ => by kernel_rfl
  | 2, _ => by kernel_rfl
  | 3, _ => by kernel_rfl
  | 4, _ => by kernel_rfl
  | 5, _ => by kernel_rfl
  | 6, _ => by kernel_rfl
  | 7, _ => by kernel_rfl
  | 8, _ => by kernel_rfl
  | 9, _ => by kernel_rfl
  | 10, _ => by kernel_rfl
  | 11, _ => by kernel_rfl
  | 12, _ => by kernel_rfl
  | 13, _ => by kernel_rfl
  | 14, _ => by kernel_rfl
  | 15, _ => by kernel_rfl
  | 16, _ => by kernel_rfl
  | 17, _ => by kernel_rfl
  | 18, _ => by kernel_rfl
  | 19, _ => by kernel_rfl
  | 20, _ => by kernel_rfl
  | 21, _ => by kernel_rfl
  | 22, _ => by kernel_rfl
  | 23, _ => by kernel_rfl
  | 24, _ => by kernel_rfl
  | 25, _ => by kernel_rfl
  | 26, _ => by kernel_rfl
  | 27, _ => by kernel_rfl
  | 28, _ => by kernel_rfl
  | 29, _ => by kernel_rfl
  | 30, _ => by kernel_rfl
  | 31, _ => by kernel_rfl
  | 32, _ => by kernel_rfl
  | 33, _ => by kernel_rfl
  | 34, _ => by kernel_rfl
  | 35, _ => by kernel_rfl
  | 36, _ => by kernel_rfl
  | 37, _ => by kernel_rfl
  | 38, _ => by kernel_rfl
  | 39, _ => by kernel_rfl
  | 40, _ => by kernel_rfl
  | 41, _ => by kernel_rfl
  | 42, _ => by kernel_rfl
  | 43, _ => by kernel_rfl
  | 44, _ => by kernel_rfl
  | 45, _ => by kernel_rfl
  | 46, _ => by kernel_rfl
  | 47, _ => by kernel_rfl
  | 48, _ => by kernel_rfl
  | 49, _ => by kernel_rfl
  | 50, _ => by kernel_rfl
  | 51, _ => by kernel_rfl
  | 52, _ => by kernel_rfl
  | 53, _ => by kernel_rfl
  | 54, _ => by kernel_rfl
  | 55, _ => by kernel_rfl
  | 56, _ => by kernel_rfl
  | 57, _ => by kernel_rfl
  | 58, _ => by kernel_rfl
  | 59, _ => by kernel_rfl
  | 60, _ => by kernel_rfl
  | 61, _ => by kernel_rfl
  | 62, _ => by kernel_rfl
  | 63, _ => by kernel_rfl
  | n + 64, h => by omega

theorem byte_u8 (x : Int) : IntKind.wrap .u8 x = x % 256 := rfl
theorem byte_of {x : Int} {k : Nat} (h0 : 0 ≤ x) (hk : 0 < k) : byI x (k : Int) = ((x.toNat / k % 256 : Nat) : Int) := by
  unfold byI
  rw [byte_u8, Int.fdiv_eq_ediv_of_nonneg _ (by omega)]
  obtain ⟨n, rfl⟩ := Int.eq_ofNat_of_zero_le h0
  rw [Int.toNat_natCast]
  rfl
theorem byte_64 (n : Nat) (h : n < 256) : IntKind.u64.wrap (n : Int) = n := by
  show (n : Int) % 18446744073709551616 = n
  omega
theorem field_at (n a : Nat) : fieldN n a 8 = n / 2 ^ a % 256 := by
  unfold fieldN
  exact Nat.and_two_pow_sub_one_eq_mod _ 8
theorem nbeq {a b : Nat} (h : a ≠ b) : Nat.beq a b = false := by
  cases hb : Nat.beq a b with
  | false => rfl
  | true => exact (h (Nat.eq_of_beq_eq_true hb)).elim

def lineF (X : List Int) : Nat → Int := fun q => X.getD q 0
def lineF2 (X : List Int) (k w : Int) : Nat → Int := fun q => bif Nat.beq k.toNat q then w else X.getD q 0
noncomputable def lineT (X : List Int) (k w : Int) : Tr (List At) :=
  .br 200023 (within k 8) (.br 0 (pdec (preW (bytesL (lineF X)) (bytesL (lineF2 X k w)) w k 0)) (.ok [.b true]) .no) .no

theorem lineT_sat (X : List Int) {k w : Int} (h0 : 0 ≤ k) (h1 : k < 8) (w0 : 0 ≤ w) (w1 : w < 18446744073709551616) : (lineT X k w).sat fun r => r = [.b true] := by
  refine brW (fun _ => brT (pdec_yes ⟨Int.le_refl _, by omega, w0, w1, h0, fun m hm => ?_⟩) (Tr.sat_ok.2 rfl)) (fun hh => by exfalso; omega)
  refine ⟨fun hne => ?_, fun he => ?_⟩
  · rw [bytes_at _ m hm, bytes_at _ m hm]
    unfold lineF lineF2
    rw [nbeq (fun e => hne e.symm), cond_false]
  · rw [bytes_at _ m hm]
    unfold lineF2
    rw [he, Nat.beq_refl, cond_true, byte_of w0 (Nat.two_pow_pos _), byte_64 _ (Nat.mod_lt _ (by omega)), field_at]

theorem x_WordLines (x0 x1 x2 x3 x4 x5 x6 x7 x8 x9 : Int) : T_WordLines x0 x1 x2 x3 x4 x5 x6 x7 x8 x9 = .br 0 true (.br 16 (decide (Int.tmod x8 8 < 0)) (lineT [x0, x1, x2, x3, x4, x5, x6, x7] (IntKind.i64.wrap (0 - Int.tmod x8 8)) x9) (lineT [x0, x1, x2, x3, x4, x5, x6, x7] (Int.tmod x8 8) x9)) .no := by kernel_rfl

theorem tmod8 (x : Int) : -8 < Int.tmod x 8 ∧ Int.tmod x 8 < 8 := by
  rcases Int.le_total 0 x with h | h
  · have h1 := Int.tmod_nonneg 8 h
    have h2 := Int.tmod_lt_of_pos x (b := 8) (by omega)
    omega
  · have h1 := Int.tmod_nonneg 8 (a := -x) (by omega)
    have h2 := Int.tmod_lt_of_pos (-x) (b := 8) (by omega)
    have h3 := Int.neg_tmod x 8
    omega

theorem vc_WordLines (x0 x1 x2 x3 x4 x5 x6 x7 x8 x9 : Int) (_h0 : IntKind.min .u64 ≤ x0) (_k0 : x0 ≤ IntKind.max .u64) (_h1 : IntKind.min .u64 ≤ x1) (_k1 : x1 ≤ IntKind.max .u64) (_h2 : IntKind.min .u64 ≤ x2) (_k2 : x2 ≤ IntKind.max .u64) (_h3 : IntKind.min .u64 ≤ x3) (_k3 : x3 ≤ IntKind.max .u64) (_h4 : IntKind.min .u64 ≤ x4) (_k4 : x4 ≤ IntKind.max .u64) (_h5 : IntKind.min .u64 ≤ x5) (_k5 : x5 ≤ IntKind.max .u64) (_h6 : IntKind.min .u64 ≤ x6) (_k6 : x6 ≤ IntKind.max .u64) (_h7 : IntKind.min .u64 ≤ x7) (_k7 : x7 ≤ IntKind.max .u64) (_h8 : IntKind.min .i64 ≤ x8) (_k8 : x8 ≤ IntKind.max .i64) (_h9 : IntKind.min .u64 ≤ x9) (_k9 : x9 ≤ IntKind.max .u64) :
    (T_WordLines x0 x1 x2 x3 x4 x5 x6 x7 x8 x9).sat fun r => r = [.b true] := by
  rw [x_WordLines]
  obtain ⟨t0, t1⟩ := tmod8 x8
  have w0 : 0 ≤ x9 := _h9
  have w1 : x9 ≤ 18446744073709551615 := _k9
  refine brT rfl (brD (fun hx => ?_) (fun hx => ?_))
  · rw [wrap_i64 (x := 0 - Int.tmod x8 8) (by omega) (by omega)]
    exact lineT_sat _ (by omega) (by omega) w0 (by omega)
  · exact lineT_sat _ (by omega) (by omega) w0 (by omega)
end Go.Proofs.Ytgohhgkonbenbaa.G
end

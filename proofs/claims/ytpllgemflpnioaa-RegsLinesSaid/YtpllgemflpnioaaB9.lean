/-
  What functions of the seat compute, printed by a program from the explorer.
-/
import Derived.Test.YtpllgemflpnioaaG6
import Derived.KernelRfl
namespace Go.Proofs.Ytpllgemflpnioaa.G
open Go Go.AM Go.Proofs
/-! ### rIs -/

def ish_rIs : FSh := ⟨[.v false [.k (.n .i64)], .v false [.k (.n .i64)]], []⟩
def osh_rIs : FSh := ⟨[.v false [.k .b]], []⟩
def T_rIs (x0 : Int) (x1 : Int) : Tr (List At) :=
 .br 7 (decide (x0 ≥ (0 : Int)))
 (.br 11 (decide (x0 ≤ (63 : Int)))
 (.br 15 (decide (x1 ≥ (1 : Int)))
 (.br 19 (decide (x1 ≤ (64 : Int)))
 (.ok [(.b (decide (IntKind.wrap IntKind.i64 (x0 + x1) ≤ (64 : Int))))])
 (.ok [(.b (false))]))
 (.ok [(.b (false))]))
 (.ok [(.b (false))]))
 (.ok [(.b (false))])
def y_rIs : Nat → Option Nat := (syOf3 [7, 11, 15, 19] [] [])
def TL_rIs (l : List At) : Tr (List At) := T_rIs (aI l 0) (aI l 1)
theorem e_rIs (l : List At) : (call Try.prog Γ_rDiffer y_rIs noLoops 100 Try.f22 (mkV ish_rIs l) (mkH ish_rIs l)).bind (leafO 0 osh_rIs) = TL_rIs l := by kernel_rfl
def r_rIs_0 (x0 : Int) (x1 : Int) : Bool :=
  bif decide (x0 ≥ (0 : Int)) then (bif decide (x0 ≤ (63 : Int)) then (bif decide (x1 ≥ (1 : Int)) then (bif decide (x1 ≤ (64 : Int)) then (decide (IntKind.wrap IntKind.i64 (x0 + x1) ≤ (64 : Int)))
  else false)
  else false)
  else false)
  else false
def F_rIs : List At → Tr (List At) := fun l => .ok [.b (r_rIs_0 (aI l 0) (aI l 1))]
theorem s_rIs : SpecF Try.prog 22 (.pure (locP ish_rIs osh_rIs F_rIs)) :=
  spec_locP (sy := y_rIs) (fuel := 100) (Lp := noLoops) o_rDiffer mixed ⟨Try.func22, by kernel_rfl, by kernel_rfl⟩ ish_rIs osh_rIs rfl (noLoops_ok _) (hT_merged [.b] e_rIs (fun l => by kernel_rfl) (fun l => by kernel_rfl))
def Γ_rIs : Specs := upd Γ_rDiffer 22 (.pure (locP ish_rIs osh_rIs F_rIs))
theorem o_rIs : SpecOK Try.prog Γ_rIs := SpecOK.upd o_rDiffer s_rIs

/-! ### rBit -/

def ish_rBit : FSh := ⟨[.v false [.k (.n .u64)], .v false [.k (.n .i64)]], []⟩
def osh_rBit : FSh := ⟨[.v false [.k (.n .u64)]], []⟩
def T_rBit (x0 : Int) (x1 : Int) : Tr (List At) :=
 .br 7 (decide ((0 : Int) ≤ x1))
 (.ok [(.i (bits BinOp.and IntKind.u64 (Int.fdiv x0 ((2 : Int) ^ shiftN IntKind.u64 x1)) (1 : Int)))])
 (.no)
def y_rBit : Nat → Option Nat := (syOf3 [7] [] [])
def TL_rBit (l : List At) : Tr (List At) := T_rBit (aI l 0) (aI l 1)
theorem e_rBit (l : List At) : (call Try.prog Γ_rIs y_rBit noLoops 100 Try.f23 (mkV ish_rBit l) (mkH ish_rBit l)).bind (leafO 0 osh_rBit) = TL_rBit l := by kernel_rfl
def r_rBit_0 (x0 : Int) (x1 : Int) : Int :=
  bif decide ((0 : Int) ≤ x1) then (bits BinOp.and IntKind.u64 (Int.fdiv x0 ((2 : Int) ^ shiftN IntKind.u64 x1)) (1 : Int))
  else 0
def ok_rBit (x0 : Int) (x1 : Int) : Bool :=
  bif decide ((0 : Int) ≤ x1) then (true)
  else false
def F_rBit : List At → Tr (List At) := fun l => .br 0 (ok_rBit (aI l 0) (aI l 1)) (.ok [.i (r_rBit_0 (aI l 0) (aI l 1))]) .no
theorem s_rBit : SpecF Try.prog 23 (.pure (locP ish_rBit osh_rBit F_rBit)) :=
  spec_locP (sy := y_rBit) (fuel := 100) (Lp := noLoops) o_rIs mixed ⟨Try.func23, by kernel_rfl, by kernel_rfl⟩ ish_rBit osh_rBit rfl (noLoops_ok _) (hT_merged [.i] e_rBit (fun l => by kernel_rfl) (fun l => by kernel_rfl))
def Γ_rBit : Specs := upd Γ_rIs 23 (.pure (locP ish_rBit osh_rBit F_rBit))
theorem o_rBit : SpecOK Try.prog Γ_rBit := SpecOK.upd o_rIs s_rBit

/-! ### rNumber -/

def ish_rNumber : FSh := ⟨[.v false [.k (.n .u64)], .v false [.k (.n .i64)]], []⟩
def osh_rNumber : FSh := ⟨[.tup [(false, [.k (.n .i64)]), (false, [.k (.n .i64)])]], []⟩
def T_rNumber (x0 : Int) (x1 : Int) : Tr (List At) :=
 .br 8 (decide (x1 < (0 : Int)))
 (.ok [(.i ((0 : Int))), (.i ((2 : Int)))])
 (.br 13 (decide (x0 > IntKind.wrap IntKind.u64 x1))
 (.ok [(.i ((0 : Int))), (.i ((2 : Int)))])
 (.ok [(.i (IntKind.wrap IntKind.i64 x0)), (.i ((0 : Int)))]))
def y_rNumber : Nat → Option Nat := (syOf3 [8, 13] [] [])
def TL_rNumber (l : List At) : Tr (List At) := T_rNumber (aI l 0) (aI l 1)
theorem e_rNumber (l : List At) : (call Try.prog Γ_rBit y_rNumber noLoops 100 Try.f20 (mkV ish_rNumber l) (mkH ish_rNumber l)).bind (leafO 0 osh_rNumber) = TL_rNumber l := by kernel_rfl
def r_rNumber_0 (x0 : Int) (x1 : Int) : Int :=
  bif decide (x1 < (0 : Int)) then ((0 : Int))
  else bif decide (x0 > IntKind.wrap IntKind.u64 x1) then ((0 : Int))
  else IntKind.wrap IntKind.i64 x0
def r_rNumber_1 (x0 : Int) (x1 : Int) : Int :=
  bif decide (x1 < (0 : Int)) then ((2 : Int))
  else bif decide (x0 > IntKind.wrap IntKind.u64 x1) then ((2 : Int))
  else (0 : Int)
def F_rNumber : List At → Tr (List At) := fun l => .ok [.i (r_rNumber_0 (aI l 0) (aI l 1)), .i (r_rNumber_1 (aI l 0) (aI l 1))]
theorem s_rNumber : SpecF Try.prog 20 (.pure (locP ish_rNumber osh_rNumber F_rNumber)) :=
  spec_locP (sy := y_rNumber) (fuel := 100) (Lp := noLoops) o_rBit mixed ⟨Try.func20, by kernel_rfl, by kernel_rfl⟩ ish_rNumber osh_rNumber rfl (noLoops_ok _) (hT_merged [.i, .i] e_rNumber (fun l => by kernel_rfl) (fun l => by kernel_rfl))
def Γ_rNumber : Specs := upd Γ_rBit 20 (.pure (locP ish_rNumber osh_rNumber F_rNumber))
theorem o_rNumber : SpecOK Try.prog Γ_rNumber := SpecOK.upd o_rBit s_rNumber

/-! ### the loop at 5 of rField -/

def lsh_rField_5 : FSh := ⟨[.v false [.k (.n .u64)], .v false [.k (.n .i64)], .v false [.k (.n .i64)], .any, .any, .any, .any, .v false [.k (.n .u64)], .v false [.k (.n .i64)], .any, .any, .any, .any, .any, .any, .any, .any, .any, .any, .any, .any, .any, .any, .any, .any, .any, .any, .any], []⟩
def xsh_rField_5_0 : FSh := ⟨[.any, .any, .any, .any, .any, .any, .any, .v false [.k (.n .u64)], .any, .any, .any, .any, .any, .any, .any, .any, .any, .any, .any, .any, .any, .any, .any, .any, .any, .any, .any, .any], []⟩
def xs_rField_5 : Exs := fun e => match e with
  | .normal => some lsh_rField_5
  | .exit n => (match Nat.beq n 0 with | true => some xsh_rField_5_0 | false => none)
  | .ret => none
def B_rField_5 (x0 : Int) (x1 : Int) (x2 : Int) (x3 : Int) (x4 : Int) : Tr (Ex × List At) :=
 .br 15 (decide (x4 < x2))
 (.br 0 (ok_rBit x0 (IntKind.wrap IntKind.i64 (x1 + x4)))
 (.br 25 (decide ((0 : Int) ≤ x4))
 (.ok (.normal, [(.i (x0)), (.i (x1)), (.i (x2)), (.i (bits BinOp.or IntKind.u64 x3 (IntKind.wrap IntKind.u64 (r_rBit_0 x0 (IntKind.wrap IntKind.i64 (x1 + x4)) * (2 : Int) ^ shiftN IntKind.u64 x4)))), (.i (IntKind.wrap IntKind.i64 (x4 + (1 : Int))))]))
 (.no))
 (.no))
 (.ok (.exit 0, [(.i (x3))]))
def y_rField_5 : Nat → Option Nat := (syOf3 [15, 25] [] [])
def BL_rField_5 (l : List At) : Tr (Ex × List At) := B_rField_5 (aI l 0) (aI l 1) (aI l 2) (aI l 3) (aI l 4)
theorem eB_rField_5 (l : List At) : (exec Try.prog Γ_rNumber y_rField_5 noLoops 100 (loopAt Try.f21 5) ⟨mkV lsh_rField_5 l, mkH lsh_rField_5 l⟩).bind (leafL 0 xs_rField_5) = BL_rField_5 l := by kernel_rfl
/- by hand: O_rField_5 (x0 : Int) (x1 : Int) (x2 : Int) (x3 : Int) (x4 : Int) : Tr (Ex × List At); OL_rField_5 (l) := O_rField_5 (aI l 0) (aI l 1) (aI l 2) (aI l 3) (aI l 4); μ_rField_5 : List At → Nat; rd_rField_5 : ∀ l r, (OL_rField_5 l).val = some r → RoundA BL_rField_5 OL_rField_5 μ_rField_5 l r -/

/-! ### the loop at 4 of rWith -/

def lsh_rWith_4 : FSh := ⟨[.v false [.k (.n .u64)], .v false [.k (.n .i64)], .v false [.k (.n .i64)], .v false [.k (.n .u64)], .any, .any, .any, .any, .any, .any, .v false [.k (.n .i64)], .any, .any, .any, .any, .any, .any, .any, .any, .any, .any, .any, .any, .any, .any, .any, .any, .any, .any, .any, .any, .any, .any, .any, .any, .any, .any, .any, .any, .any, .any, .any, .any, .any, .any, .any], []⟩
def xsh_rWith_4_0 : FSh := ⟨[.v false [.k (.n .u64)], .v false [.k (.n .i64)], .v false [.k (.n .i64)], .v false [.k (.n .u64)], .any, .any, .any, .any, .any, .any, .any, .any, .any, .any, .any, .any, .any, .any, .any, .any, .any, .any, .any, .any, .any, .any, .any, .any, .any, .any, .any, .any, .any, .any, .any, .any, .any, .any, .any, .any, .any, .any, .any, .any, .any, .any], []⟩
def xsh_rWith_4_1 : FSh := ⟨[.any, .any, .any, .any, .any, .any, .any, .any, .v false [.k (.n .u64)], .v false [.k (.n .i64)], .any, .any, .any, .any, .any, .any, .any, .any, .any, .any, .any, .any, .any, .any, .any, .any, .any, .any, .any, .any, .any, .any, .any, .any, .any, .any, .any, .any, .any, .any, .any, .any, .any, .any, .any, .any], []⟩
def xs_rWith_4 : Exs := fun e => match e with
  | .normal => some lsh_rWith_4
  | .exit n => (match Nat.beq n 0 with | true => some xsh_rWith_4_0 | false => none)
  | .ret => some xsh_rWith_4_1
def B_rWith_4 (x0 : Int) (x1 : Int) (x2 : Int) (x3 : Int) (x4 : Int) : Tr (Ex × List At) :=
 .br 18 (decide (x4 < (64 : Int)))
 (.br 0 (ok_rBit x3 x4)
 (.br 24 (r_rBit_0 x3 x4 == (1 : Int))
 (.ok (.ret, [(.i ((0 : Int))), (.i ((2 : Int)))]))
 (.ok (.normal, [(.i (x0)), (.i (x1)), (.i (x2)), (.i (x3)), (.i (IntKind.wrap IntKind.i64 (x4 + (1 : Int))))])))
 (.no))
 (.ok (.exit 0, [(.i (x0)), (.i (x1)), (.i (x2)), (.i (x3))]))
def y_rWith_4 : Nat → Option Nat := (syOf3 [18, 24] [] [])
def BL_rWith_4 (l : List At) : Tr (Ex × List At) := B_rWith_4 (aI l 0) (aI l 1) (aI l 2) (aI l 3) (aI l 4)
theorem eB_rWith_4 (l : List At) : (exec Try.prog Γ_rNumber y_rWith_4 noLoops 100 (loopAt Try.f16 4) ⟨mkV lsh_rWith_4 l, mkH lsh_rWith_4 l⟩).bind (leafL 0 xs_rWith_4) = BL_rWith_4 l := by kernel_rfl
/- by hand: O_rWith_4 (x0 : Int) (x1 : Int) (x2 : Int) (x3 : Int) (x4 : Int) : Tr (Ex × List At); OL_rWith_4 (l) := O_rWith_4 (aI l 0) (aI l 1) (aI l 2) (aI l 3) (aI l 4); μ_rWith_4 : List At → Nat; rd_rWith_4 : ∀ l r, (OL_rWith_4 l).val = some r → RoundA BL_rWith_4 OL_rWith_4 μ_rWith_4 l r -/

/-! ### the loop at 9 of rWith -/

def lsh_rWith_9 : FSh := ⟨[.v false [.k (.n .u64)], .v false [.k (.n .i64)], .v false [.k (.n .i64)], .v false [.k (.n .u64)], .any, .any, .any, .any, .any, .any, .any, .v false [.k (.n .i64)], .any, .any, .any, .any, .any, .any, .any, .any, .any, .any, .any, .any, .any, .any, .any, .any, .any, .any, .any, .any, .any, .any, .any, .any, .any, .any, .any, .any, .any, .any, .any, .any, .any, .any], []⟩
def xsh_rWith_9_0 : FSh := ⟨[.v false [.k (.n .u64)], .any, .any, .any, .any, .any, .any, .any, .any, .any, .any, .any, .any, .any, .any, .any, .any, .any, .any, .any, .any, .any, .any, .any, .any, .any, .any, .any, .any, .any, .any, .any, .any, .any, .any, .any, .any, .any, .any, .any, .any, .any, .any, .any, .any, .any], []⟩
def xs_rWith_9 : Exs := fun e => match e with
  | .normal => some lsh_rWith_9
  | .exit n => (match Nat.beq n 2 with | true => some xsh_rWith_9_0 | false => none)
  | .ret => none
def B_rWith_9 (x0 : Int) (x1 : Int) (x2 : Int) (x3 : Int) (x4 : Int) : Tr (Ex × List At) :=
 .br 27 (decide (x4 < x2))
 (.br 0 (ok_rBit x3 x4)
 (.br 0 (ok_rBit x0 (IntKind.wrap IntKind.i64 (x1 + x4)))
 (.br 38 (r_rBit_0 x3 x4 != r_rBit_0 x0 (IntKind.wrap IntKind.i64 (x1 + x4)))
 (.br 43 (decide ((0 : Int) ≤ IntKind.wrap IntKind.i64 (x1 + x4)))
 (.ok (.normal, [(.i (bits BinOp.xor IntKind.u64 x0 (IntKind.wrap IntKind.u64 ((1 : Int) * (2 : Int) ^ shiftN IntKind.u64 (IntKind.wrap IntKind.i64 (x1 + x4)))))), (.i (x1)), (.i (x2)), (.i (x3)), (.i (IntKind.wrap IntKind.i64 (x4 + (1 : Int))))]))
 (.no))
 (.ok (.normal, [(.i (x0)), (.i (x1)), (.i (x2)), (.i (x3)), (.i (IntKind.wrap IntKind.i64 (x4 + (1 : Int))))])))
 (.no))
 (.no))
 (.ok (.exit 2, [(.i (x0))]))
def y_rWith_9 : Nat → Option Nat := (syOf3 [27, 38, 43] [] [])
def BL_rWith_9 (l : List At) : Tr (Ex × List At) := B_rWith_9 (aI l 0) (aI l 1) (aI l 2) (aI l 3) (aI l 4)
theorem eB_rWith_9 (l : List At) : (exec Try.prog Γ_rNumber y_rWith_9 noLoops 100 (loopAt Try.f16 9) ⟨mkV lsh_rWith_9 l, mkH lsh_rWith_9 l⟩).bind (leafL 0 xs_rWith_9) = BL_rWith_9 l := by kernel_rfl
/- by hand: O_rWith_9 (x0 : Int) (x1 : Int) (x2 : Int) (x3 : Int) (x4 : Int) : Tr (Ex × List At); OL_rWith_9 (l) := O_rWith_9 (aI l 0) (aI l 1) (aI l 2) (aI l 3) (aI l 4); μ_rWith_9 : List At → Nat; rd_rWith_9 : ∀ l r, (OL_rWith_9 l).val = some r → RoundA BL_rWith_9 OL_rWith_9 μ_rWith_9 l r -/

end Go.Proofs.Ytpllgemflpnioaa.G

/-
  What functions of the seat compute, printed by a program from the explorer.
-/
import Derived.Test.YtpllgemflpnioaaLpW
import Derived.KernelRfl
namespace Go.Proofs.Ytpllgemflpnioaa.G
open Go Go.AM Go.Proofs
/-! ### rField -/

def ish_rField : FSh := ⟨[.v false [.k (.n .u64)], .v false [.k (.n .i64)], .v false [.k (.n .i64)]], []⟩
def osh_rField : FSh := ⟨[.v false [.k (.n .u64)]], []⟩
def T_rField (x0 : Int) (x1 : Int) (x2 : Int) : Tr (List At) :=
 .br 12 (!r_rIs_0 x1 x2)
 (.ok [(.i ((0 : Int)))])
 (.br 0 (decide ((0 : Int) ≤ (0 : Int) ∧ (0 : Int) ≤ (64 : Int) ∧ (0 : Int) ≤ x1 ∧ x1 ≤ (64 : Int) ∧ x2 ≤ (64 : Int)))
 (.ok [(.i (fieldL (Int.toNat (x2 - (0 : Int))) (0 : Int) (0 : Int) x0 x1))])
 (.no))
def y_rField : Nat → Option Nat := (syOf3 [12] [] [])
def TL_rField (l : List At) : Tr (List At) := T_rField (aI l 0) (aI l 1) (aI l 2)
theorem e_rField (l : List At) : (call Try.prog Γ_rNumber y_rField Lp_rField_5 100 Try.f21 (mkV ish_rField l) (mkH ish_rField l)).bind (leafO 0 osh_rField) = TL_rField l := by kernel_rfl
def r_rField_0 (x0 : Int) (x1 : Int) (x2 : Int) : Int :=
  bif !r_rIs_0 x1 x2 then ((0 : Int))
  else bif decide ((0 : Int) ≤ (0 : Int) ∧ (0 : Int) ≤ (64 : Int) ∧ (0 : Int) ≤ x1 ∧ x1 ≤ (64 : Int) ∧ x2 ≤ (64 : Int)) then (fieldL (Int.toNat (x2 - (0 : Int))) (0 : Int) (0 : Int) x0 x1)
  else 0
def ok_rField (x0 : Int) (x1 : Int) (x2 : Int) : Bool :=
  bif !r_rIs_0 x1 x2 then (true)
  else bif decide ((0 : Int) ≤ (0 : Int) ∧ (0 : Int) ≤ (64 : Int) ∧ (0 : Int) ≤ x1 ∧ x1 ≤ (64 : Int) ∧ x2 ≤ (64 : Int)) then (true)
  else false
def F_rField : List At → Tr (List At) := fun l => .br 0 (ok_rField (aI l 0) (aI l 1) (aI l 2)) (.ok [.i (r_rField_0 (aI l 0) (aI l 1) (aI l 2))]) .no
theorem s_rField : SpecF Try.prog 21 (.pure (locP ish_rField osh_rField F_rField)) :=
  spec_locP (sy := y_rField) (fuel := 100) (Lp := Lp_rField_5) o_rNumber mixed ⟨Try.func21, by kernel_rfl, by kernel_rfl⟩ ish_rField osh_rField rfl lk_rField_5 (hT_merged [.i] e_rField (fun l => by kernel_rfl) (fun l => by kernel_rfl))
def Γ_rField : Specs := upd Γ_rNumber 21 (.pure (locP ish_rField osh_rField F_rField))
theorem o_rField : SpecOK Try.prog Γ_rField := SpecOK.upd o_rNumber s_rField

/-! ### rWith -/

def ish_rWith : FSh := ⟨[.v false [.k (.n .u64)], .v false [.k (.n .i64)], .v false [.k (.n .i64)], .v false [.k (.n .u64)]], []⟩
def osh_rWith : FSh := ⟨[.tup [(false, [.k (.n .u64)]), (false, [.k (.n .i64)])]], []⟩
def T_rWith (x0 : Int) (x1 : Int) (x2 : Int) (x3 : Int) : Tr (List At) :=
 .br 15 (!r_rIs_0 x1 x2)
 (.ok [(.i ((0 : Int))), (.i ((1 : Int)))])
 (.br 0 (decide ((0 : Int) ≤ x2 ∧ x2 ≤ (64 : Int)))
 (.br 0 (anyL (Int.toNat ((64 : Int) - x2)) x3 x2)
 (.ok [(.i ((0 : Int))), (.i ((2 : Int)))])
 (.br 0 (decide ((0 : Int) ≤ (0 : Int) ∧ (0 : Int) ≤ (64 : Int) ∧ (0 : Int) ≤ x1 ∧ x1 ≤ (64 : Int) ∧ x2 ≤ (64 : Int)))
 (.ok [(.i (withL (Int.toNat (x2 - (0 : Int))) x0 (0 : Int) x1 x3)), (.i ((0 : Int)))])
 (.no)))
 (.no))
def y_rWith : Nat → Option Nat := (syOf3 [15] [] [])
def TL_rWith (l : List At) : Tr (List At) := T_rWith (aI l 0) (aI l 1) (aI l 2) (aI l 3)
theorem e_rWith (l : List At) : (call Try.prog Γ_rField y_rWith Lp_rWith 100 Try.f16 (mkV ish_rWith l) (mkH ish_rWith l)).bind (leafO 0 osh_rWith) = TL_rWith l := by kernel_rfl
def r_rWith_0 (x0 : Int) (x1 : Int) (x2 : Int) (x3 : Int) : Int :=
  bif !r_rIs_0 x1 x2 then ((0 : Int))
  else bif decide ((0 : Int) ≤ x2 ∧ x2 ≤ (64 : Int)) then (bif anyL (Int.toNat ((64 : Int) - x2)) x3 x2 then ((0 : Int))
  else bif decide ((0 : Int) ≤ (0 : Int) ∧ (0 : Int) ≤ (64 : Int) ∧ (0 : Int) ≤ x1 ∧ x1 ≤ (64 : Int) ∧ x2 ≤ (64 : Int)) then (withL (Int.toNat (x2 - (0 : Int))) x0 (0 : Int) x1 x3)
  else 0)
  else 0
def r_rWith_1 (x0 : Int) (x1 : Int) (x2 : Int) (x3 : Int) : Int :=
  bif !r_rIs_0 x1 x2 then ((1 : Int))
  else bif decide ((0 : Int) ≤ x2 ∧ x2 ≤ (64 : Int)) then (bif anyL (Int.toNat ((64 : Int) - x2)) x3 x2 then ((2 : Int))
  else bif decide ((0 : Int) ≤ (0 : Int) ∧ (0 : Int) ≤ (64 : Int) ∧ (0 : Int) ≤ x1 ∧ x1 ≤ (64 : Int) ∧ x2 ≤ (64 : Int)) then ((0 : Int))
  else 0)
  else 0
def ok_rWith (x0 : Int) (x1 : Int) (x2 : Int) (x3 : Int) : Bool :=
  bif !r_rIs_0 x1 x2 then (true)
  else bif decide ((0 : Int) ≤ x2 ∧ x2 ≤ (64 : Int)) then (bif anyL (Int.toNat ((64 : Int) - x2)) x3 x2 then (true)
  else bif decide ((0 : Int) ≤ (0 : Int) ∧ (0 : Int) ≤ (64 : Int) ∧ (0 : Int) ≤ x1 ∧ x1 ≤ (64 : Int) ∧ x2 ≤ (64 : Int)) then (true)
  else false)
  else false
def F_rWith : List At → Tr (List At) := fun l => .br 0 (ok_rWith (aI l 0) (aI l 1) (aI l 2) (aI l 3)) (.ok [.i (r_rWith_0 (aI l 0) (aI l 1) (aI l 2) (aI l 3)), .i (r_rWith_1 (aI l 0) (aI l 1) (aI l 2) (aI l 3))]) .no
theorem s_rWith : SpecF Try.prog 16 (.pure (locP ish_rWith osh_rWith F_rWith)) :=
  spec_locP (sy := y_rWith) (fuel := 100) (Lp := Lp_rWith) o_rField mixed ⟨Try.func16, by kernel_rfl, by kernel_rfl⟩ ish_rWith osh_rWith rfl lk_rWith (hT_merged [.i, .i] e_rWith (fun l => by kernel_rfl) (fun l => by kernel_rfl))
def Γ_rWith : Specs := upd Γ_rField 16 (.pure (locP ish_rWith osh_rWith F_rWith))
theorem o_rWith : SpecOK Try.prog Γ_rWith := SpecOK.upd o_rField s_rWith

end Go.Proofs.Ytpllgemflpnioaa.G

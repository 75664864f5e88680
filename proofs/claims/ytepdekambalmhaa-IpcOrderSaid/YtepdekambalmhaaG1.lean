/-
  What functions of the seat compute, printed by a program from the explorer.
-/
import Derived.Test.YtepdekambalmhaaDyn
import Derived.KernelRfl
namespace Go.Proofs.Ytepdekambalmhaa.G
open Go Go.AM Go.Proofs
/-! ### isId -/

def ish_isId : FSh := ⟨[.v false [.k (.n .i64)]], []⟩
def osh_isId : FSh := ⟨[.v false [.k .b]], []⟩
def T_isId (x0 : Int) : Tr (List At) :=
 .br 5 (decide (x0 ≥ (0 : Int)))
 (.ok [(.b (decide (x0 < (49 : Int))))])
 (.ok [(.b (false))])
def y_isId : Nat → Option Nat := (syOf3 [5] [] [])
def TL_isId (l : List At) : Tr (List At) := T_isId (aI l 0)
theorem e_isId (l : List At) : (call Try.prog Γ_dyn y_isId noLoops 100 Try.f20 (mkV ish_isId l) (mkH ish_isId l)).bind (leafO 0 osh_isId) = TL_isId l := by kernel_rfl
def r_isId_0 (x0 : Int) : Bool :=
  bif decide (x0 ≥ (0 : Int)) then (decide (x0 < (49 : Int)))
  else false
def F_isId : List At → Tr (List At) := fun l => .ok [.b (r_isId_0 (aI l 0))]
theorem s_isId : SpecF Try.prog 20 (.pure (locP ish_isId osh_isId F_isId)) :=
  spec_locP (sy := y_isId) (fuel := 100) (Lp := noLoops) o_dyn mixed ⟨Try.func20, by kernel_rfl, by kernel_rfl⟩ ish_isId osh_isId rfl (noLoops_ok _) (hT_merged [.b] e_isId (fun l => by kernel_rfl) (fun l => by kernel_rfl))
def Γ_isId : Specs := upd Γ_dyn 20 (.pure (locP ish_isId osh_isId F_isId))
theorem o_isId : SpecOK Try.prog Γ_isId := SpecOK.upd o_dyn s_isId

/-! ### waits -/

def ish_waits : FSh := ⟨[.v false [.k (.n .i64)]], []⟩
def osh_waits : FSh := ⟨[.v false [.k .b]], []⟩
def T_waits (x0 : Int) : Tr (List At) :=
 .br 5 (x0 == (3 : Int))
 (.ok [(.b (true))])
 (.ok [(.b (x0 == (4 : Int)))])
def y_waits : Nat → Option Nat := (syOf3 [5] [] [])
def TL_waits (l : List At) : Tr (List At) := T_waits (aI l 0)
theorem e_waits (l : List At) : (call Try.prog Γ_isId y_waits noLoops 100 Try.f17 (mkV ish_waits l) (mkH ish_waits l)).bind (leafO 0 osh_waits) = TL_waits l := by kernel_rfl
def r_waits_0 (x0 : Int) : Bool :=
  bif x0 == (3 : Int) then (true)
  else x0 == (4 : Int)
def F_waits : List At → Tr (List At) := fun l => .ok [.b (r_waits_0 (aI l 0))]
theorem s_waits : SpecF Try.prog 17 (.pure (locP ish_waits osh_waits F_waits)) :=
  spec_locP (sy := y_waits) (fuel := 100) (Lp := noLoops) o_isId mixed ⟨Try.func17, by kernel_rfl, by kernel_rfl⟩ ish_waits osh_waits rfl (noLoops_ok _) (hT_merged [.b] e_waits (fun l => by kernel_rfl) (fun l => by kernel_rfl))
def Γ_waits : Specs := upd Γ_isId 17 (.pure (locP ish_waits osh_waits F_waits))
theorem o_waits : SpecOK Try.prog Γ_waits := SpecOK.upd o_isId s_waits

/-! ### notId -/

def ish_notId : FSh := ⟨[.v false [.k (.n .i64)]], []⟩
def osh_notId : FSh := ⟨[.v false [.k .b]], []⟩
def T_notId (x0 : Int) : Tr (List At) :=
 .ok [(.b (!r_isId_0 x0))]
def y_notId : Nat → Option Nat := (syOf3 [] [] [])
def TL_notId (l : List At) : Tr (List At) := T_notId (aI l 0)
theorem e_notId (l : List At) : (call Try.prog Γ_waits y_notId noLoops 100 Try.f19 (mkV ish_notId l) (mkH ish_notId l)).bind (leafO 0 osh_notId) = TL_notId l := by kernel_rfl
def r_notId_0 (x0 : Int) : Bool :=
  !r_isId_0 x0
def F_notId : List At → Tr (List At) := fun l => .ok [.b (r_notId_0 (aI l 0))]
theorem s_notId : SpecF Try.prog 19 (.pure (locP ish_notId osh_notId F_notId)) :=
  spec_locP (sy := y_notId) (fuel := 100) (Lp := noLoops) o_waits mixed ⟨Try.func19, by kernel_rfl, by kernel_rfl⟩ ish_notId osh_notId rfl (noLoops_ok _) (hT_merged [.b] e_notId (fun l => by kernel_rfl) (fun l => by kernel_rfl))
def Γ_notId : Specs := upd Γ_waits 19 (.pure (locP ish_notId osh_notId F_notId))
theorem o_notId : SpecOK Try.prog Γ_notId := SpecOK.upd o_waits s_notId

/-! ### the loop at 2 of idxF -/

def lsh_idxF_2 : FSh := ⟨[.v false [.sq 0 1], .v false [.fn 19 []], .any, .any, .any, .any, .any, .v false [.k (.n .i64)], .v false [.k (.n .i64)], .any, .any, .any, .any, .any, .any, .any, .any, .any, .any], [.rows [.n .i64] false]⟩
def xsh_idxF_2_0 : FSh := ⟨[.any, .any, .any, .any, .any, .any, .any, .any, .any, .any, .any, .any, .any, .any, .any, .any, .any, .any, .any], [.no]⟩
def xsh_idxF_2_1 : FSh := ⟨[.any, .any, .any, .any, .v false [.k (.n .i64)], .any, .any, .any, .any, .any, .any, .any, .any, .any, .any, .any, .any, .any, .any], [.no]⟩
def xs_idxF_2 : Exs := fun e => match e with
  | .normal => some lsh_idxF_2
  | .exit n => (match Nat.beq n 0 with | true => some xsh_idxF_2_0 | false => none)
  | .ret => some xsh_idxF_2_1
def B_idxF_2 (x0 : Nat) (x1 : Nat) (x2 : Int) (x3 : Int) (n4 : Nat) (g4 : Nat → Nat → Int) : Tr (Ex × List At) :=
 .br 9 (decide (x3 < x2))
 (.br 14 (within x3 x1)
 (.br 16 (r_notId_0 (g4 (x0 + Int.toNat x3) (0 : Nat)))
 (.ok (.ret, [(.i (x3))]))
 (.ok (.normal, [(.n (x0)), (.n (x1)), (.i (x2)), (.i (IntKind.wrap IntKind.i64 (x3 + (1 : Int)))), (.r (n4) (g4))])))
 (.no))
 (.ok (.exit 0, []))
def y_idxF_2 : Nat → Option Nat := (syOf3 [9, 14, 16] [] [])
def BL_idxF_2 (l : List At) : Tr (Ex × List At) := B_idxF_2 (aN l 0) (aN l 1) (aI l 2) (aI l 3) (aRn l 4) (aRg l 4)
theorem eB_idxF_2 (l : List At) : (exec Try.prog Γ_notId y_idxF_2 noLoops 100 (loopAt Try.f21 2) ⟨mkV lsh_idxF_2 l, mkH lsh_idxF_2 l⟩).bind (leafL 1 xs_idxF_2) = BL_idxF_2 l := by kernel_rfl
/- by hand: O_idxF_2 (x0 : Nat) (x1 : Nat) (x2 : Int) (x3 : Int) (n4 : Nat) (g4 : Nat → Nat → Int) : Tr (Ex × List At); OL_idxF_2 (l) := O_idxF_2 (aN l 0) (aN l 1) (aI l 2) (aI l 3) (aRn l 4) (aRg l 4); μ_idxF_2 : List At → Nat; rd_idxF_2 : ∀ l r, (OL_idxF_2 l).val = some r → RoundA BL_idxF_2 OL_idxF_2 μ_idxF_2 l r -/

end Go.Proofs.Ytepdekambalmhaa.G

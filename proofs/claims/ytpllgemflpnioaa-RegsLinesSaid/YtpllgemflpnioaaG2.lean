/-
  What functions of the seat compute, printed by a program from the explorer.
-/
import Derived.Test.YtpllgemflpnioaaG1
import Derived.KernelRfl
namespace Go.Proofs.Ytpllgemflpnioaa.G
open Go Go.AM Go.Proofs
/-! ### shown -/

def ish_shown : FSh := ⟨[], []⟩
def osh_shown : FSh := ⟨[.v false [.k .b]], []⟩
def T_shown  : Tr (List At) :=
 .br 0 (true)
 (.ok [(.b (true))])
 (.no)
def y_shown : Nat → Option Nat := (syOf3 [] [] [])
def TL_shown (l : List At) : Tr (List At) := T_shown 
theorem e_shown (l : List At) : (call Try.prog Γ_gOf y_shown noLoops 100 Try.f7 (mkV ish_shown l) (mkH ish_shown l)).bind (leafO 0 osh_shown) = TL_shown l := by kernel_rfl
def r_shown_0  : Bool :=
  bif true then (true)
  else false
def ok_shown  : Bool :=
  bif true then (true)
  else false
def F_shown : List At → Tr (List At) := fun l => .br 0 (ok_shown ) (.ok [.b (r_shown_0)]) .no
theorem s_shown : SpecF Try.prog 7 (.pure (locP ish_shown osh_shown F_shown)) :=
  spec_locP (sy := y_shown) (fuel := 100) (Lp := noLoops) o_gOf mixed ⟨Try.func7, by kernel_rfl, by kernel_rfl⟩ ish_shown osh_shown rfl (noLoops_ok _) (hT_merged [.b] e_shown (fun l => by kernel_rfl) (fun l => by kernel_rfl))
def Γ_shown : Specs := upd Γ_gOf 7 (.pure (locP ish_shown osh_shown F_shown))
theorem o_shown : SpecOK Try.prog Γ_shown := SpecOK.upd o_gOf s_shown

end Go.Proofs.Ytpllgemflpnioaa.G

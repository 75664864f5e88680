/-
  Calls of closures: all of them only read here (the first law, which nothing calls, stands for the flag).
-/
import Derived.Test.YtepdekambalmhaaRows
import Derived.Test.YtepdekambalmhaaAn9
import Derived.Test.YtepdekambalmhaaAmW
import Derived.KernelRfl
namespace Go.Proofs.Ytepdekambalmhaa.G
open Go Go.AM Go.Proofs

theorem mixed : Try.prog.follows .mixedOrders = true := by kernel_rfl
def Γ_dyn : Specs := upd noSpecs 3 (.read fun _ _ => .no)
theorem s_dyn : SpecF Try.prog 3 (.read fun _ _ => .no) := by
  have h : fnOk Try.prog 3 Try.f3 := ⟨Try.func3, by kernel_rfl, by kernel_rfl⟩
  refine .inr ⟨⟨Try.f3, h⟩, fun φ H w targs args tv H' happ _ _ => ?_, fun _ _ _ _ h => by simp [Tr.val] at h⟩
  simp [Spec.app, Tr.val_bind, Tr.val] at happ
theorem o_dyn : SpecOK Try.prog Γ_dyn := SpecOK.upd noSpecs_ok s_dyn
end Go.Proofs.Ytepdekambalmhaa.G

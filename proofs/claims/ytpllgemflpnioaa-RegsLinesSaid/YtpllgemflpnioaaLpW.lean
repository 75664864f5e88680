/-
  Both loops of the reference's With.
-/
import Derived.Test.YtpllgemflpnioaaB10
import Derived.KernelRfl
namespace Go.Proofs.Ytpllgemflpnioaa.G
open Go Go.AM Go.Proofs
def Lp_rWith : Loops := Loops.set Lp_rWith_4 9 (loopFn 0 lsh_rWith_9 xs_rWith_9 OL_rWith_9)
theorem lk_rWith : LoopsFn Try.prog 0 Lp_rWith Try.f16 := loopsFn_set lk_rWith_4 (by kernel_rfl) f_rWith_9
end Go.Proofs.Ytpllgemflpnioaa.G

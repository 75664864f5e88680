/-
  What functions of the seat compute, printed by a program from the explorer.
-/
import Derived.Test.YtpllgemflpnioaaB9O
import Derived.KernelRfl
namespace Go.Proofs.Ytpllgemflpnioaa.G
open Go Go.AM Go.Proofs
theorem f_rField_5 : LoopF Try.prog 0 (loopAt Try.f21 5) (loopFn 0 lsh_rField_5 xs_rField_5 OL_rField_5) :=
  loop_loc (sy := y_rField_5) (fuel := 100) (Lp := noLoops) o_rNumber mixed (loopsOK_at (noLoops_ok _) 5) rfl eB_rField_5 rd_rField_5
def Lp_rField_5 : Loops := Loops.set noLoops 5 (loopFn 0 lsh_rField_5 xs_rField_5 OL_rField_5)
theorem lk_rField_5 : LoopsFn Try.prog 0 Lp_rField_5 Try.f21 := loopsFn_set (noLoops_ok _) (by kernel_rfl) f_rField_5

theorem f_rWith_4 : LoopF Try.prog 0 (loopAt Try.f16 4) (loopFn 0 lsh_rWith_4 xs_rWith_4 OL_rWith_4) :=
  loop_sat (sy := y_rWith_4) (fuel := 100) (Lp := noLoops) o_rNumber mixed (loopsOK_at (noLoops_ok _) 4) rfl eB_rWith_4 rd_rWith_4
def Lp_rWith_4 : Loops := Loops.set noLoops 4 (loopFn 0 lsh_rWith_4 xs_rWith_4 OL_rWith_4)
theorem lk_rWith_4 : LoopsFn Try.prog 0 Lp_rWith_4 Try.f16 := loopsFn_set (noLoops_ok _) (by kernel_rfl) f_rWith_4

theorem f_rWith_9 : LoopF Try.prog 0 (loopAt Try.f16 9) (loopFn 0 lsh_rWith_9 xs_rWith_9 OL_rWith_9) :=
  loop_loc (sy := y_rWith_9) (fuel := 100) (Lp := noLoops) o_rNumber mixed (loopsOK_at (noLoops_ok _) 9) rfl eB_rWith_9 rd_rWith_9
def Lp_rWith_9 : Loops := Loops.set noLoops 9 (loopFn 0 lsh_rWith_9 xs_rWith_9 OL_rWith_9)
theorem lk_rWith_9 : LoopsFn Try.prog 0 Lp_rWith_9 Try.f16 := loopsFn_set (noLoops_ok _) (by kernel_rfl) f_rWith_9

end Go.Proofs.Ytpllgemflpnioaa.G

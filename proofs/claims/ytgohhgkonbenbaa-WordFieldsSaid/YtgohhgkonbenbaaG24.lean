/-
  What functions of the seat compute, printed by a program from the explorer.
-/
import Derived.Test.YtgohhgkonbenbaaG1
import Derived.KernelRfl
namespace Go.Proofs.Ytgohhgkonbenbaa.G
open Go Go.AM Go.Proofs
/-! ### 24 -/

def T24 (x0 : Int) (x1 : Int) : Tr TV :=
 .br 7 (decide (x0 ≥ 0))
 (.br 11 (decide (x0 ≤ 63))
 (.br 15 (decide (x1 ≥ 1))
 (.br 19 (decide (x1 ≤ 64))
 (.ok (.v (.s (.b (decide (IntKind.i64.wrap (x0 + x1) ≤ 64))))))
 (.ok (.v (.s (.b (false))))))
 (.ok (.v (.s (.b (false))))))
 (.ok (.v (.s (.b (false))))))
 (.ok (.v (.s (.b (false)))))
def y24 : Nat → Option Nat := syOf [7, 11, 15, 19]
theorem e24 (x0 : Int) (x1 : Int) : callV Try.prog Γ11 y24 noLoops 100 Try.f24 [.v (.s (.n .i64 x0)), .v (.s (.n .i64 x1))] [] = T24 x0 x1 := by kernel_rfl
def r24_0 (x0 : Int) (x1 : Int) : Bool :=
  bif decide (x0 ≥ 0) then (bif decide (x0 ≤ 63) then (bif decide (x1 ≥ 1) then (bif decide (x1 ≤ 64) then decide (IntKind.i64.wrap (x0 + x1) ≤ 64)
  else false)
  else false)
  else false)
  else false
def F24 : List TV → Tr TV := fun ts => guardA [(false, [.n .i64]), (false, [.n .i64])] ts fun l => .ok (.v (.s (.b (r24_0 (gN l 0) (gN l 1)))))
theorem s24 : SpecF Try.prog 24 (.pure F24) :=
  spec_merged (sy := y24) (fuel := 100) (Lp := noLoops) o11 mixed ⟨Try.func24, by kernel_rfl, by kernel_rfl⟩ (noLoops_ok _) [(false, [.n .i64]), (false, [.n .i64])] (.one (false, [.b])) (T := fun l => T24 (gN l 0) (gN l 1)) (fun l => e24 (gN l 0) (gN l 1)) (fun l => by kernel_rfl) (fun ts => by kernel_rfl)
def Γ24 : Specs := upd Γ11 24 (.pure F24)
theorem o24 : SpecOK Try.prog Γ24 := SpecOK.upd o11 s24

/-! ### 25 -/

def T25 (x0 : Int) (x1 : Int) : Tr TV :=
 .br 7 (decide (0 ≤ x1))
 (.ok (.v (.s (.n .u64 (bits BinOp.and IntKind.u64 (x0.fdiv (2 ^ shiftN IntKind.u64 x1)) 1)))))
 (.no)
def y25 : Nat → Option Nat := syOf [7]
theorem e25 (x0 : Int) (x1 : Int) : callV Try.prog Γ24 y25 noLoops 100 Try.f25 [.v (.s (.n .u64 x0)), .v (.s (.n .i64 x1))] [] = T25 x0 x1 := by kernel_rfl
def r25_0 (x0 : Int) (x1 : Int) : Int :=
  bif decide (0 ≤ x1) then bits BinOp.and IntKind.u64 (x0.fdiv (2 ^ shiftN IntKind.u64 x1)) 1
  else 0
def ok25 (x0 : Int) (x1 : Int) : Bool :=
  bif decide (0 ≤ x1) then true
  else false
def F25 : List TV → Tr TV := fun ts => guardA [(false, [.n .u64]), (false, [.n .i64])] ts fun l => .br 0 (ok25 (gN l 0) (gN l 1)) (.ok (.v (.s (.n .u64 (r25_0 (gN l 0) (gN l 1)))))) .no
theorem s25 : SpecF Try.prog 25 (.pure F25) :=
  spec_merged (sy := y25) (fuel := 100) (Lp := noLoops) o24 mixed ⟨Try.func25, by kernel_rfl, by kernel_rfl⟩ (noLoops_ok _) [(false, [.n .u64]), (false, [.n .i64])] (.one (false, [.n .u64])) (T := fun l => T25 (gN l 0) (gN l 1)) (fun l => e25 (gN l 0) (gN l 1)) (fun l => by kernel_rfl) (fun ts => by kernel_rfl)
def Γ25 : Specs := upd Γ24 25 (.pure F25)
theorem o25 : SpecOK Try.prog Γ25 := SpecOK.upd o24 s25

end Go.Proofs.Ytgohhgkonbenbaa.G

/-
  What functions of the seat compute, printed by a program from the explorer.
-/
import Derived.Test.YtgohhgkonbenbaaRows
import Derived.Test.YtgohhgkonbenbaaAmF
import Derived.KernelRfl
namespace Go.Proofs.Ytgohhgkonbenbaa.G
open Go Go.AM Go.Proofs
theorem mixed : Try.prog.follows .mixedOrders = true := by kernel_rfl
/-! ### 22 -/

def T22 (x0 : Int) (x1 : Int) : Tr TV :=
 .br 7 (decide (x0 ≥ 0))
 (.br 11 (decide (x0 < 64))
 (.br 15 (decide (x1 ≥ 1))
 (.ok (.v (.s (.b (decide (x1 ≤ IntKind.i64.wrap (64 - x0)))))))
 (.ok (.v (.s (.b (false))))))
 (.ok (.v (.s (.b (false))))))
 (.ok (.v (.s (.b (false)))))
def y22 : Nat → Option Nat := syOf [7, 11, 15]
theorem e22 (x0 : Int) (x1 : Int) : callV Try.prog noSpecs y22 noLoops 100 Try.f22 [.v (.s (.n .i64 x0)), .v (.s (.n .i64 x1))] [] = T22 x0 x1 := by kernel_rfl
def r22_0 (x0 : Int) (x1 : Int) : Bool :=
  bif decide (x0 ≥ 0) then (bif decide (x0 < 64) then (bif decide (x1 ≥ 1) then decide (x1 ≤ IntKind.i64.wrap (64 - x0))
  else false)
  else false)
  else false
def F22 : List TV → Tr TV := fun ts => guardA [(false, [.n .i64]), (false, [.n .i64])] ts fun l => .ok (.v (.s (.b (r22_0 (gN l 0) (gN l 1)))))
theorem s22 : SpecF Try.prog 22 (.pure F22) :=
  spec_merged (sy := y22) (fuel := 100) (Lp := noLoops) noSpecs_ok mixed ⟨Try.func22, by kernel_rfl, by kernel_rfl⟩ (noLoops_ok _) [(false, [.n .i64]), (false, [.n .i64])] (.one (false, [.b])) (T := fun l => T22 (gN l 0) (gN l 1)) (fun l => e22 (gN l 0) (gN l 1)) (fun l => by kernel_rfl) (fun ts => by kernel_rfl)
def Γ22 : Specs := upd noSpecs 22 (.pure F22)
theorem o22 : SpecOK Try.prog Γ22 := SpecOK.upd noSpecs_ok s22

/-! ### 23 -/

def T23 (x0 : Int) : Tr TV :=
 .br 5 (decide (0 ≤ IntKind.i64.wrap (64 - x0)))
 (.ok (.v (.s (.n .u64 (Int.fdiv 18446744073709551615 (2 ^ shiftN IntKind.u64 (IntKind.i64.wrap (64 - x0))))))))
 (.no)
def y23 : Nat → Option Nat := syOf [5]
theorem e23 (x0 : Int) : callV Try.prog Γ22 y23 noLoops 100 Try.f23 [.v (.s (.n .i64 x0))] [] = T23 x0 := by kernel_rfl
def r23_0 (x0 : Int) : Int :=
  bif decide (0 ≤ IntKind.i64.wrap (64 - x0)) then Int.fdiv 18446744073709551615 (2 ^ shiftN IntKind.u64 (IntKind.i64.wrap (64 - x0)))
  else 0
def ok23 (x0 : Int) : Bool :=
  bif decide (0 ≤ IntKind.i64.wrap (64 - x0)) then true
  else false
def F23 : List TV → Tr TV := fun ts => guardA [(false, [.n .i64])] ts fun l => .br 0 (ok23 (gN l 0)) (.ok (.v (.s (.n .u64 (r23_0 (gN l 0)))))) .no
theorem s23 : SpecF Try.prog 23 (.pure F23) :=
  spec_merged (sy := y23) (fuel := 100) (Lp := noLoops) o22 mixed ⟨Try.func23, by kernel_rfl, by kernel_rfl⟩ (noLoops_ok _) [(false, [.n .i64])] (.one (false, [.n .u64])) (T := fun l => T23 (gN l 0)) (fun l => e23 (gN l 0)) (fun l => by kernel_rfl) (fun ts => by kernel_rfl)
def Γ23 : Specs := upd Γ22 23 (.pure F23)
theorem o23 : SpecOK Try.prog Γ23 := SpecOK.upd o22 s23

/-! ### 14 -/

def T14 (x0 : Int) (x1 : Int) (x2 : Int) : Tr TV :=
 .br 10 (!r22_0 x1 x2)
 (.ok (.v (.s (.n .u64 (0)))))
 (.br 13 (decide (0 ≤ x1))
 (.br 0 (ok23 x2)
 (.ok (.v (.s (.n .u64 (bits BinOp.and IntKind.u64 (x0.fdiv (2 ^ shiftN IntKind.u64 x1)) (r23_0 x2))))))
 (.no))
 (.no))
def y14 : Nat → Option Nat := syOf [10, 13]
theorem e14 (x0 : Int) (x1 : Int) (x2 : Int) : callV Try.prog Γ23 y14 noLoops 100 Try.f14 [.v (.s (.n .u64 x0)), .v (.s (.n .i64 x1)), .v (.s (.n .i64 x2))] [] = T14 x0 x1 x2 := by kernel_rfl
def r14_0 (x0 : Int) (x1 : Int) (x2 : Int) : Int :=
  bif !r22_0 x1 x2 then 0
  else bif decide (0 ≤ x1) then (bif ok23 x2 then bits BinOp.and IntKind.u64 (x0.fdiv (2 ^ shiftN IntKind.u64 x1)) (r23_0 x2)
  else 0)
  else 0
def ok14 (x0 : Int) (x1 : Int) (x2 : Int) : Bool :=
  bif !r22_0 x1 x2 then true
  else bif decide (0 ≤ x1) then (bif ok23 x2 then true
  else false)
  else false
def F14 : List TV → Tr TV := fun ts => guardA [(false, [.n .u64]), (false, [.n .i64]), (false, [.n .i64])] ts fun l => .br 0 (ok14 (gN l 0) (gN l 1) (gN l 2)) (.ok (.v (.s (.n .u64 (r14_0 (gN l 0) (gN l 1) (gN l 2)))))) .no
theorem s14 : SpecF Try.prog 14 (.pure F14) :=
  spec_merged (sy := y14) (fuel := 100) (Lp := noLoops) o23 mixed ⟨Try.func14, by kernel_rfl, by kernel_rfl⟩ (noLoops_ok _) [(false, [.n .u64]), (false, [.n .i64]), (false, [.n .i64])] (.one (false, [.n .u64])) (T := fun l => T14 (gN l 0) (gN l 1) (gN l 2)) (fun l => e14 (gN l 0) (gN l 1) (gN l 2)) (fun l => by kernel_rfl) (fun ts => by kernel_rfl)
def Γ14 : Specs := upd Γ23 14 (.pure F14)
theorem o14 : SpecOK Try.prog Γ14 := SpecOK.upd o23 s14

/-! ### 12 -/

def T12 (x0 : Int) (x1 : Int) (x2 : Int) (x3 : Int) : Tr TV :=
 .br 10 (!r22_0 x1 x2)
 (.ok (.tup [(.s (.n .u64 (0))), (.s (.n .i64 (1)))]))
 (.br 0 (ok23 x2)
 (.br 15 (bits BinOp.andNot IntKind.u64 x3 (r23_0 x2) != 0)
 (.ok (.tup [(.s (.n .u64 (0))), (.s (.n .i64 (2)))]))
 (.br 0 (ok23 x2)
 (.br 25 (decide (0 ≤ x1))
 (.br 29 (decide (0 ≤ x1))
 (.ok (.tup [(.s (.n .u64 (bits BinOp.or IntKind.u64 (bits BinOp.andNot IntKind.u64 x0 (IntKind.u64.wrap (r23_0 x2 * 2 ^ shiftN IntKind.u64 x1)))   (IntKind.u64.wrap (x3 * 2 ^ shiftN IntKind.u64 x1))))), (.s (.n .i64 (0)))]))
 (.no))
 (.no))
 (.no)))
 (.no))
def y12 : Nat → Option Nat := syOf [10, 15, 25, 29]
theorem e12 (x0 : Int) (x1 : Int) (x2 : Int) (x3 : Int) : callV Try.prog Γ14 y12 noLoops 100 Try.f12 [.v (.s (.n .u64 x0)), .v (.s (.n .i64 x1)), .v (.s (.n .i64 x2)), .v (.s (.n .u64 x3))] [] = T12 x0 x1 x2 x3 := by kernel_rfl
def r12_0 (x0 : Int) (x1 : Int) (x2 : Int) (x3 : Int) : Int :=
  bif !r22_0 x1 x2 then 0
  else bif ok23 x2 then (bif bits BinOp.andNot IntKind.u64 x3 (r23_0 x2) != 0 then 0
  else bif ok23 x2 then (bif decide (0 ≤ x1) then (bif decide (0 ≤ x1) then bits BinOp.or IntKind.u64 (bits BinOp.andNot IntKind.u64 x0 (IntKind.u64.wrap (r23_0 x2 * 2 ^ shiftN IntKind.u64 x1)))   (IntKind.u64.wrap (x3 * 2 ^ shiftN IntKind.u64 x1))
  else 0)
  else 0)
  else 0)
  else 0
def r12_1 (x0 : Int) (x1 : Int) (x2 : Int) (x3 : Int) : Int :=
  bif !r22_0 x1 x2 then 1
  else bif ok23 x2 then (bif bits BinOp.andNot IntKind.u64 x3 (r23_0 x2) != 0 then 2
  else bif ok23 x2 then (bif decide (0 ≤ x1) then (bif decide (0 ≤ x1) then 0
  else 0)
  else 0)
  else 0)
  else 0
def ok12 (x0 : Int) (x1 : Int) (x2 : Int) (x3 : Int) : Bool :=
  bif !r22_0 x1 x2 then true
  else bif ok23 x2 then (bif bits BinOp.andNot IntKind.u64 x3 (r23_0 x2) != 0 then true
  else bif ok23 x2 then (bif decide (0 ≤ x1) then (bif decide (0 ≤ x1) then true
  else false)
  else false)
  else false)
  else false
def F12 : List TV → Tr TV := fun ts => guardA [(false, [.n .u64]), (false, [.n .i64]), (false, [.n .i64]), (false, [.n .u64])] ts fun l => .br 0 (ok12 (gN l 0) (gN l 1) (gN l 2) (gN l 3)) (.ok (.tup [(.s (.n .u64 (r12_0 (gN l 0) (gN l 1) (gN l 2) (gN l 3)))), (.s (.n .i64 (r12_1 (gN l 0) (gN l 1) (gN l 2) (gN l 3))))])) .no
theorem s12 : SpecF Try.prog 12 (.pure F12) :=
  spec_merged (sy := y12) (fuel := 100) (Lp := noLoops) o14 mixed ⟨Try.func12, by kernel_rfl, by kernel_rfl⟩ (noLoops_ok _) [(false, [.n .u64]), (false, [.n .i64]), (false, [.n .i64]), (false, [.n .u64])] (.tup [(false, [.n .u64]), (false, [.n .i64])]) (T := fun l => T12 (gN l 0) (gN l 1) (gN l 2) (gN l 3)) (fun l => e12 (gN l 0) (gN l 1) (gN l 2) (gN l 3)) (fun l => by kernel_rfl) (fun ts => by kernel_rfl)
def Γ12 : Specs := upd Γ14 12 (.pure F12)
theorem o12 : SpecOK Try.prog Γ12 := SpecOK.upd o14 s12

/-! ### 16 -/

def T16 (x0 : Int) (x1 : Int) : Tr TV :=
 .br 8 (decide (x1 < 0))
 (.ok (.tup [(.s (.n .i64 (0))), (.s (.n .i64 (2)))]))
 (.br 13 (decide (x0 > IntKind.u64.wrap x1))
 (.ok (.tup [(.s (.n .i64 (0))), (.s (.n .i64 (2)))]))
 (.ok (.tup [(.s (.n .i64 (IntKind.i64.wrap x0))), (.s (.n .i64 (0)))])))
def y16 : Nat → Option Nat := syOf [8, 13]
theorem e16 (x0 : Int) (x1 : Int) : callV Try.prog Γ12 y16 noLoops 100 Try.f16 [.v (.s (.n .u64 x0)), .v (.s (.n .i64 x1))] [] = T16 x0 x1 := by kernel_rfl
def r16_0 (x0 : Int) (x1 : Int) : Int :=
  bif decide (x1 < 0) then 0
  else bif decide (x0 > IntKind.u64.wrap x1) then 0
  else IntKind.i64.wrap x0
def r16_1 (x0 : Int) (x1 : Int) : Int :=
  bif decide (x1 < 0) then 2
  else bif decide (x0 > IntKind.u64.wrap x1) then 2
  else 0
def F16 : List TV → Tr TV := fun ts => guardA [(false, [.n .u64]), (false, [.n .i64])] ts fun l => .ok (.tup [(.s (.n .i64 (r16_0 (gN l 0) (gN l 1)))), (.s (.n .i64 (r16_1 (gN l 0) (gN l 1))))])
theorem s16 : SpecF Try.prog 16 (.pure F16) :=
  spec_merged (sy := y16) (fuel := 100) (Lp := noLoops) o12 mixed ⟨Try.func16, by kernel_rfl, by kernel_rfl⟩ (noLoops_ok _) [(false, [.n .u64]), (false, [.n .i64])] (.tup [(false, [.n .i64]), (false, [.n .i64])]) (T := fun l => T16 (gN l 0) (gN l 1)) (fun l => e16 (gN l 0) (gN l 1)) (fun l => by kernel_rfl) (fun ts => by kernel_rfl)
def Γ16 : Specs := upd Γ12 16 (.pure F16)
theorem o16 : SpecOK Try.prog Γ16 := SpecOK.upd o12 s16

/-! ### 17 -/

def T17 (x0 : Int) (x1 : Int) : Tr TV :=
 .br 8 (decide (x1 < 0))
 (.ok (.tup [(.s (.n .i64 (0))), (.s (.n .i64 (2)))]))
 (.br 13 (decide (x0 > IntKind.u64.wrap x1))
 (.ok (.tup [(.s (.n .i64 (0))), (.s (.n .i64 (2)))]))
 (.ok (.tup [(.s (.n .i64 (IntKind.i64.wrap x0))), (.s (.n .i64 (0)))])))
def y17 : Nat → Option Nat := syOf [8, 13]
theorem e17 (x0 : Int) (x1 : Int) : callV Try.prog Γ16 y17 noLoops 100 Try.f17 [.v (.s (.n .u64 x0)), .v (.s (.n .i64 x1))] [] = T17 x0 x1 := by kernel_rfl
def r17_0 (x0 : Int) (x1 : Int) : Int :=
  bif decide (x1 < 0) then 0
  else bif decide (x0 > IntKind.u64.wrap x1) then 0
  else IntKind.i64.wrap x0
def r17_1 (x0 : Int) (x1 : Int) : Int :=
  bif decide (x1 < 0) then 2
  else bif decide (x0 > IntKind.u64.wrap x1) then 2
  else 0
def F17 : List TV → Tr TV := fun ts => guardA [(false, [.n .u64]), (false, [.n .i64])] ts fun l => .ok (.tup [(.s (.n .i64 (r17_0 (gN l 0) (gN l 1)))), (.s (.n .i64 (r17_1 (gN l 0) (gN l 1))))])
theorem s17 : SpecF Try.prog 17 (.pure F17) :=
  spec_merged (sy := y17) (fuel := 100) (Lp := noLoops) o16 mixed ⟨Try.func17, by kernel_rfl, by kernel_rfl⟩ (noLoops_ok _) [(false, [.n .u64]), (false, [.n .i64])] (.tup [(false, [.n .i64]), (false, [.n .i64])]) (T := fun l => T17 (gN l 0) (gN l 1)) (fun l => e17 (gN l 0) (gN l 1)) (fun l => by kernel_rfl) (fun ts => by kernel_rfl)
def Γ17 : Specs := upd Γ16 17 (.pure F17)
theorem o17 : SpecOK Try.prog Γ17 := SpecOK.upd o16 s17

/-! ### 11 -/

def T11  : Tr TV :=
 .br 0 (true)
 (.br 0 (true)
 (.br 0 (true)
 (.br 0 (true)
 (.br 0 (true)
 (.ok (.v (.s (.b (true)))))
 (.no))
 (.no))
 (.no))
 (.no))
 (.no)
def y11 : Nat → Option Nat := syOf []
theorem e11  : callV Try.prog Γ17 y11 noLoops 100 Try.f11 [] [] = T11  := by kernel_rfl
def r11_0  : Bool :=
  bif true then (bif true then (bif true then (bif true then (bif true then true
  else false)
  else false)
  else false)
  else false)
  else false
def ok11  : Bool :=
  bif true then (bif true then (bif true then (bif true then (bif true then true
  else false)
  else false)
  else false)
  else false)
  else false
def F11 : List TV → Tr TV := fun ts => guardA [] ts fun l => .br 0 (ok11 ) (.ok (.v (.s (.b (r11_0))))) .no
theorem s11 : SpecF Try.prog 11 (.pure F11) :=
  spec_merged (sy := y11) (fuel := 100) (Lp := noLoops) o17 mixed ⟨Try.func11, by kernel_rfl, by kernel_rfl⟩ (noLoops_ok _) [] (.one (false, [.b])) (T := fun l => T11 ) (fun l => e11 ) (fun l => by kernel_rfl) (fun ts => by kernel_rfl)
def Γ11 : Specs := upd Γ17 11 (.pure F11)
theorem o11 : SpecOK Try.prog Γ11 := SpecOK.upd o17 s11

end Go.Proofs.Ytgohhgkonbenbaa.G

/-
  What functions of the seat compute, printed by a program from the explorer.
-/
import Derived.Test.YtgohhgkonbenbaaV15
import Derived.KernelRfl
namespace Go.Proofs.Ytgohhgkonbenbaa.G
open Go Go.AM Go.Proofs
/-! ### 15 -/

def T15 (x0 : Int) (x1 : Int) (x2 : Int) : Tr TV :=
 .br 12 (!r24_0 x1 x2)
 (.ok (.v (.s (.n .u64 (0)))))
 (.br 0 (pre15_5 0 0 x0 x1 x2)
 (.ok (.v (.s (.n .u64 (g15_5_0_7 0 0 x0 x1 x2)))))
 (.no))
def y15 : Nat → Option Nat := syOf [12]
theorem e15 (x0 : Int) (x1 : Int) (x2 : Int) : callV Try.prog Γ25 y15 (noLoops.set 5 F15_5) 100 Try.f15 [.v (.s (.n .u64 x0)), .v (.s (.n .i64 x1)), .v (.s (.n .i64 x2))] [] = T15 x0 x1 x2 := by kernel_rfl
def r15_0 (x0 : Int) (x1 : Int) (x2 : Int) : Int :=
  bif !r24_0 x1 x2 then 0
  else bif pre15_5 0 0 x0 x1 x2 then g15_5_0_7 0 0 x0 x1 x2
  else 0
def ok15 (x0 : Int) (x1 : Int) (x2 : Int) : Bool :=
  bif !r24_0 x1 x2 then true
  else bif pre15_5 0 0 x0 x1 x2 then true
  else false
def F15 : List TV → Tr TV := fun ts => guardA [(false, [.n .u64]), (false, [.n .i64]), (false, [.n .i64])] ts fun l => .br 0 (ok15 (gN l 0) (gN l 1) (gN l 2)) (.ok (.v (.s (.n .u64 (r15_0 (gN l 0) (gN l 1) (gN l 2)))))) .no
theorem s15 : SpecF Try.prog 15 (.pure F15) :=
  spec_merged (sy := y15) (fuel := 100) (Lp := (noLoops.set 5 F15_5)) o25 mixed ⟨Try.func15, by kernel_rfl, by kernel_rfl⟩ l15 [(false, [.n .u64]), (false, [.n .i64]), (false, [.n .i64])] (.one (false, [.n .u64])) (T := fun l => T15 (gN l 0) (gN l 1) (gN l 2)) (fun l => e15 (gN l 0) (gN l 1) (gN l 2)) (fun l => by kernel_rfl) (fun ts => by kernel_rfl)
def Γ15 : Specs := upd Γ25 15 (.pure F15)
theorem o15 : SpecOK Try.prog Γ15 := SpecOK.upd o25 s15

/-! ### 13 -/

def T13 (x0 : Int) (x1 : Int) (x2 : Int) (x3 : Int) : Tr TV :=
 .br 15 (!r24_0 x1 x2)
 (.ok (.tup [(.s (.n .u64 (0))), (.s (.n .i64 (1)))]))
 (.br 0 (pre13_4 x2 x3)
 (.br 0 (sel13_4_0 x2 x3)
 (.ok (.tup [(.s (.n .u64 (g13_4_0_8 x2 x3))), (.s (.n .i64 (g13_4_0_9 x2 x3)))]))
 (.br 0 (pre13_9 x0 0 x1 x2 x3)
 (.ok (.tup [(.s (.n .u64 (g13_9_0_0 x0 0 x1 x2 x3))), (.s (.n .i64 (0)))]))
 (.no)))
 (.no))
def y13 : Nat → Option Nat := syOf [15]
theorem e13 (x0 : Int) (x1 : Int) (x2 : Int) (x3 : Int) : callV Try.prog Γ15 y13 ((noLoops.set 4 F13_4).set 9 F13_9) 100 Try.f13 [.v (.s (.n .u64 x0)), .v (.s (.n .i64 x1)), .v (.s (.n .i64 x2)), .v (.s (.n .u64 x3))] [] = T13 x0 x1 x2 x3 := by kernel_rfl
def r13_0 (x0 : Int) (x1 : Int) (x2 : Int) (x3 : Int) : Int :=
  bif !r24_0 x1 x2 then 0
  else bif pre13_4 x2 x3 then (bif sel13_4_0 x2 x3 then g13_4_0_8 x2 x3
  else bif pre13_9 x0 0 x1 x2 x3 then g13_9_0_0 x0 0 x1 x2 x3
  else 0)
  else 0
def r13_1 (x0 : Int) (x1 : Int) (x2 : Int) (x3 : Int) : Int :=
  bif !r24_0 x1 x2 then 1
  else bif pre13_4 x2 x3 then (bif sel13_4_0 x2 x3 then g13_4_0_9 x2 x3
  else bif pre13_9 x0 0 x1 x2 x3 then 0
  else 0)
  else 0
def ok13 (x0 : Int) (x1 : Int) (x2 : Int) (x3 : Int) : Bool :=
  bif !r24_0 x1 x2 then true
  else bif pre13_4 x2 x3 then (bif sel13_4_0 x2 x3 then true
  else bif pre13_9 x0 0 x1 x2 x3 then true
  else false)
  else false
def F13 : List TV → Tr TV := fun ts => guardA [(false, [.n .u64]), (false, [.n .i64]), (false, [.n .i64]), (false, [.n .u64])] ts fun l => .br 0 (ok13 (gN l 0) (gN l 1) (gN l 2) (gN l 3)) (.ok (.tup [(.s (.n .u64 (r13_0 (gN l 0) (gN l 1) (gN l 2) (gN l 3)))), (.s (.n .i64 (r13_1 (gN l 0) (gN l 1) (gN l 2) (gN l 3))))])) .no
theorem s13 : SpecF Try.prog 13 (.pure F13) :=
  spec_merged (sy := y13) (fuel := 100) (Lp := ((noLoops.set 4 F13_4).set 9 F13_9)) o15 mixed ⟨Try.func13, by kernel_rfl, by kernel_rfl⟩ l13 [(false, [.n .u64]), (false, [.n .i64]), (false, [.n .i64]), (false, [.n .u64])] (.tup [(false, [.n .u64]), (false, [.n .i64])]) (T := fun l => T13 (gN l 0) (gN l 1) (gN l 2) (gN l 3)) (fun l => e13 (gN l 0) (gN l 1) (gN l 2) (gN l 3)) (fun l => by kernel_rfl) (fun ts => by kernel_rfl)
def Γ13 : Specs := upd Γ15 13 (.pure F13)
theorem o13 : SpecOK Try.prog Γ13 := SpecOK.upd o15 s13

/-! ### 3 -/

def T3 (x0 : Int) (x1 : Int) (x2 : Int) (x3 : Int) : Tr TV :=
 .br 0 (true)
 (.br 0 (ok12 x0 x1 x2 x3)
 (.br 0 (ok13 x0 x1 x2 x3)
 (.br 0 (ok14 x0 x1 x2)
 (.br 0 (ok15 x0 x1 x2)
 (.br 49 (r14_0 x0 x1 x2 == r15_0 x0 x1 x2)
 (.br 54 (r12_0 x0 x1 x2 x3 == r13_0 x0 x1 x2 x3)
 (.ok (.v (.s (.b (r12_1 x0 x1 x2 x3 == r13_1 x0 x1 x2 x3)))))
 (.ok (.v (.s (.b (false))))))
 (.ok (.v (.s (.b (false))))))
 (.no))
 (.no))
 (.no))
 (.no))
 (.no)
def y3 : Nat → Option Nat := syOf [49, 54]
theorem e3 (x0 : Int) (x1 : Int) (x2 : Int) (x3 : Int) : callV Try.prog Γ13 y3 noLoops 100 Try.f3 [.v (.s (.n .u64 x0)), .v (.agg [.n .i64 x1, .n .i64 x2]), .v (.s (.n .u64 x3))] [] = T3 x0 x1 x2 x3 := by kernel_rfl

end Go.Proofs.Ytgohhgkonbenbaa.G

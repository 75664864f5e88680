/-
  What functions of the seat compute, printed by a program from the explorer.
-/
import Derived.Test.YtgohhgkonbenbaaG1
import Derived.KernelRfl
namespace Go.Proofs.Ytgohhgkonbenbaa.G
open Go Go.AM Go.Proofs
/-! ### 18 -/

def T18 (x0 : Int) (x1 : Int) (x2 : Int) (x3 : Int) (x4 : Int) (x5 : Int) (x6 : Int) (x7 : Int) : Tr TV :=
 .ok (.v (.agg [(.n .u8 (IntKind.u8.wrap (x0.fdiv 1))), (.n .u8 (IntKind.u8.wrap (x0.fdiv 256))), (.n .u8 (IntKind.u8.wrap (x0.fdiv 65536))), (.n .u8 (IntKind.u8.wrap (x0.fdiv 16777216))), (.n .u8 (IntKind.u8.wrap (x0.fdiv 4294967296))), (.n .u8 (IntKind.u8.wrap (x0.fdiv 1099511627776))), (.n .u8 (IntKind.u8.wrap (x0.fdiv 281474976710656))), (.n .u8 (IntKind.u8.wrap (x0.fdiv 72057594037927936))), (.n .u8 (IntKind.u8.wrap (x1.fdiv 1))), (.n .u8 (IntKind.u8.wrap (x1.fdiv 256))), (.n .u8 (IntKind.u8.wrap (x1.fdiv 65536))), (.n .u8 (IntKind.u8.wrap (x1.fdiv 16777216))), (.n .u8 (IntKind.u8.wrap (x1.fdiv 4294967296))), (.n .u8 (IntKind.u8.wrap (x1.fdiv 1099511627776))), (.n .u8 (IntKind.u8.wrap (x1.fdiv 281474976710656))), (.n .u8 (IntKind.u8.wrap (x1.fdiv 72057594037927936))), (.n .u8 (IntKind.u8.wrap (x2.fdiv 1))), (.n .u8 (IntKind.u8.wrap (x2.fdiv 256))), (.n .u8 (IntKind.u8.wrap (x2.fdiv 65536))), (.n .u8 (IntKind.u8.wrap (x2.fdiv 16777216))), (.n .u8 (IntKind.u8.wrap (x2.fdiv 4294967296))), (.n .u8 (IntKind.u8.wrap (x2.fdiv 1099511627776))), (.n .u8 (IntKind.u8.wrap (x2.fdiv 281474976710656))), (.n .u8 (IntKind.u8.wrap (x2.fdiv 72057594037927936))), (.n .u8 (IntKind.u8.wrap (x3.fdiv 1))), (.n .u8 (IntKind.u8.wrap (x3.fdiv 256))), (.n .u8 (IntKind.u8.wrap (x3.fdiv 65536))), (.n .u8 (IntKind.u8.wrap (x3.fdiv 16777216))), (.n .u8 (IntKind.u8.wrap (x3.fdiv 4294967296))), (.n .u8 (IntKind.u8.wrap (x3.fdiv 1099511627776))), (.n .u8 (IntKind.u8.wrap (x3.fdiv 281474976710656))), (.n .u8 (IntKind.u8.wrap (x3.fdiv 72057594037927936))), (.n .u8 (IntKind.u8.wrap (x4.fdiv 1))), (.n .u8 (IntKind.u8.wrap (x4.fdiv 256))), (.n .u8 (IntKind.u8.wrap (x4.fdiv 65536))), (.n .u8 (IntKind.u8.wrap (x4.fdiv 16777216))), (.n .u8 (IntKind.u8.wrap (x4.fdiv 4294967296))), (.n .u8 (IntKind.u8.wrap (x4.fdiv 1099511627776))), (.n .u8 (IntKind.u8.wrap (x4.fdiv 281474976710656))), (.n .u8 (IntKind.u8.wrap (x4.fdiv 72057594037927936))), (.n .u8 (IntKind.u8.wrap (x5.fdiv 1))), (.n .u8 (IntKind.u8.wrap (x5.fdiv 256))), (.n .u8 (IntKind.u8.wrap (x5.fdiv 65536))), (.n .u8 (IntKind.u8.wrap (x5.fdiv 16777216))), (.n .u8 (IntKind.u8.wrap (x5.fdiv 4294967296))), (.n .u8 (IntKind.u8.wrap (x5.fdiv 1099511627776))), (.n .u8 (IntKind.u8.wrap (x5.fdiv 281474976710656))), (.n .u8 (IntKind.u8.wrap (x5.fdiv 72057594037927936))), (.n .u8 (IntKind.u8.wrap (x6.fdiv 1))), (.n .u8 (IntKind.u8.wrap (x6.fdiv 256))), (.n .u8 (IntKind.u8.wrap (x6.fdiv 65536))), (.n .u8 (IntKind.u8.wrap (x6.fdiv 16777216))), (.n .u8 (IntKind.u8.wrap (x6.fdiv 4294967296))), (.n .u8 (IntKind.u8.wrap (x6.fdiv 1099511627776))), (.n .u8 (IntKind.u8.wrap (x6.fdiv 281474976710656))), (.n .u8 (IntKind.u8.wrap (x6.fdiv 72057594037927936))), (.n .u8 (IntKind.u8.wrap (x7.fdiv 1))), (.n .u8 (IntKind.u8.wrap (x7.fdiv 256))), (.n .u8 (IntKind.u8.wrap (x7.fdiv 65536))), (.n .u8 (IntKind.u8.wrap (x7.fdiv 16777216))), (.n .u8 (IntKind.u8.wrap (x7.fdiv 4294967296))), (.n .u8 (IntKind.u8.wrap (x7.fdiv 1099511627776))), (.n .u8 (IntKind.u8.wrap (x7.fdiv 281474976710656))), (.n .u8 (IntKind.u8.wrap (x7.fdiv 72057594037927936)))]))
def y18 : Nat → Option Nat := syOf []
def TL18 (l : List AS) : Tr TV := T18 (gN l 0) (gN l 1) (gN l 2) (gN l 3) (gN l 4) (gN l 5) (gN l 6) (gN l 7)
def sg18 : Sig := [(true, [.n .u64, .n .u64, .n .u64, .n .u64, .n .u64, .n .u64, .n .u64, .n .u64])]
theorem e18 (l : List AS) : callV Try.prog Γ11 y18 noLoops 100 Try.f18 ((mkAVs l 0 sg18).map .v) [] = TL18 l := by kernel_rfl
def r18_0 (x0 : Int) : Int :=
  IntKind.u8.wrap (x0.fdiv 1)
def r18_1 (x0 : Int) : Int :=
  IntKind.u8.wrap (x0.fdiv 256)
def r18_2 (x0 : Int) : Int :=
  IntKind.u8.wrap (x0.fdiv 65536)
def r18_3 (x0 : Int) : Int :=
  IntKind.u8.wrap (x0.fdiv 16777216)
def r18_4 (x0 : Int) : Int :=
  IntKind.u8.wrap (x0.fdiv 4294967296)
def r18_5 (x0 : Int) : Int :=
  IntKind.u8.wrap (x0.fdiv 1099511627776)
def r18_6 (x0 : Int) : Int :=
  IntKind.u8.wrap (x0.fdiv 281474976710656)
def r18_7 (x0 : Int) : Int :=
  IntKind.u8.wrap (x0.fdiv 72057594037927936)
def r18_8 (x1 : Int) : Int :=
  IntKind.u8.wrap (x1.fdiv 1)
def r18_9 (x1 : Int) : Int :=
  IntKind.u8.wrap (x1.fdiv 256)
def r18_10 (x1 : Int) : Int :=
  IntKind.u8.wrap (x1.fdiv 65536)
def r18_11 (x1 : Int) : Int :=
  IntKind.u8.wrap (x1.fdiv 16777216)
def r18_12 (x1 : Int) : Int :=
  IntKind.u8.wrap (x1.fdiv 4294967296)
def r18_13 (x1 : Int) : Int :=
  IntKind.u8.wrap (x1.fdiv 1099511627776)
def r18_14 (x1 : Int) : Int :=
  IntKind.u8.wrap (x1.fdiv 281474976710656)
def r18_15 (x1 : Int) : Int :=
  IntKind.u8.wrap (x1.fdiv 72057594037927936)
def r18_16 (x2 : Int) : Int :=
  IntKind.u8.wrap (x2.fdiv 1)
def r18_17 (x2 : Int) : Int :=
  IntKind.u8.wrap (x2.fdiv 256)
def r18_18 (x2 : Int) : Int :=
  IntKind.u8.wrap (x2.fdiv 65536)
def r18_19 (x2 : Int) : Int :=
  IntKind.u8.wrap (x2.fdiv 16777216)
def r18_20 (x2 : Int) : Int :=
  IntKind.u8.wrap (x2.fdiv 4294967296)
def r18_21 (x2 : Int) : Int :=
  IntKind.u8.wrap (x2.fdiv 1099511627776)
def r18_22 (x2 : Int) : Int :=
  IntKind.u8.wrap (x2.fdiv 281474976710656)
def r18_23 (x2 : Int) : Int :=
  IntKind.u8.wrap (x2.fdiv 72057594037927936)
def r18_24 (x3 : Int) : Int :=
  IntKind.u8.wrap (x3.fdiv 1)
def r18_25 (x3 : Int) : Int :=
  IntKind.u8.wrap (x3.fdiv 256)
def r18_26 (x3 : Int) : Int :=
  IntKind.u8.wrap (x3.fdiv 65536)
def r18_27 (x3 : Int) : Int :=
  IntKind.u8.wrap (x3.fdiv 16777216)
def r18_28 (x3 : Int) : Int :=
  IntKind.u8.wrap (x3.fdiv 4294967296)
def r18_29 (x3 : Int) : Int :=
  IntKind.u8.wrap (x3.fdiv 1099511627776)
def r18_30 (x3 : Int) : Int :=
  IntKind.u8.wrap (x3.fdiv 281474976710656)
def r18_31 (x3 : Int) : Int :=
  IntKind.u8.wrap (x3.fdiv 72057594037927936)
def r18_32 (x4 : Int) : Int :=
  IntKind.u8.wrap (x4.fdiv 1)
def r18_33 (x4 : Int) : Int :=
  IntKind.u8.wrap (x4.fdiv 256)
def r18_34 (x4 : Int) : Int :=
  IntKind.u8.wrap (x4.fdiv 65536)
def r18_35 (x4 : Int) : Int :=
  IntKind.u8.wrap (x4.fdiv 16777216)
def r18_36 (x4 : Int) : Int :=
  IntKind.u8.wrap (x4.fdiv 4294967296)
def r18_37 (x4 : Int) : Int :=
  IntKind.u8.wrap (x4.fdiv 1099511627776)
def r18_38 (x4 : Int) : Int :=
  IntKind.u8.wrap (x4.fdiv 281474976710656)
def r18_39 (x4 : Int) : Int :=
  IntKind.u8.wrap (x4.fdiv 72057594037927936)
def r18_40 (x5 : Int) : Int :=
  IntKind.u8.wrap (x5.fdiv 1)
def r18_41 (x5 : Int) : Int :=
  IntKind.u8.wrap (x5.fdiv 256)
def r18_42 (x5 : Int) : Int :=
  IntKind.u8.wrap (x5.fdiv 65536)
def r18_43 (x5 : Int) : Int :=
  IntKind.u8.wrap (x5.fdiv 16777216)
def r18_44 (x5 : Int) : Int :=
  IntKind.u8.wrap (x5.fdiv 4294967296)
def r18_45 (x5 : Int) : Int :=
  IntKind.u8.wrap (x5.fdiv 1099511627776)
def r18_46 (x5 : Int) : Int :=
  IntKind.u8.wrap (x5.fdiv 281474976710656)
def r18_47 (x5 : Int) : Int :=
  IntKind.u8.wrap (x5.fdiv 72057594037927936)
def r18_48 (x6 : Int) : Int :=
  IntKind.u8.wrap (x6.fdiv 1)
def r18_49 (x6 : Int) : Int :=
  IntKind.u8.wrap (x6.fdiv 256)
def r18_50 (x6 : Int) : Int :=
  IntKind.u8.wrap (x6.fdiv 65536)
def r18_51 (x6 : Int) : Int :=
  IntKind.u8.wrap (x6.fdiv 16777216)
def r18_52 (x6 : Int) : Int :=
  IntKind.u8.wrap (x6.fdiv 4294967296)
def r18_53 (x6 : Int) : Int :=
  IntKind.u8.wrap (x6.fdiv 1099511627776)
def r18_54 (x6 : Int) : Int :=
  IntKind.u8.wrap (x6.fdiv 281474976710656)
def r18_55 (x6 : Int) : Int :=
  IntKind.u8.wrap (x6.fdiv 72057594037927936)
def r18_56 (x7 : Int) : Int :=
  IntKind.u8.wrap (x7.fdiv 1)
def r18_57 (x7 : Int) : Int :=
  IntKind.u8.wrap (x7.fdiv 256)
def r18_58 (x7 : Int) : Int :=
  IntKind.u8.wrap (x7.fdiv 65536)
def r18_59 (x7 : Int) : Int :=
  IntKind.u8.wrap (x7.fdiv 16777216)
def r18_60 (x7 : Int) : Int :=
  IntKind.u8.wrap (x7.fdiv 4294967296)
def r18_61 (x7 : Int) : Int :=
  IntKind.u8.wrap (x7.fdiv 1099511627776)
def r18_62 (x7 : Int) : Int :=
  IntKind.u8.wrap (x7.fdiv 281474976710656)
def r18_63 (x7 : Int) : Int :=
  IntKind.u8.wrap (x7.fdiv 72057594037927936)
def F18 : List TV → Tr TV := fun ts => guardA sg18 ts fun l => .ok (.v (.agg [(.n .u8 (r18_0 (gN l 0))), (.n .u8 (r18_1 (gN l 0))), (.n .u8 (r18_2 (gN l 0))), (.n .u8 (r18_3 (gN l 0))), (.n .u8 (r18_4 (gN l 0))), (.n .u8 (r18_5 (gN l 0))), (.n .u8 (r18_6 (gN l 0))), (.n .u8 (r18_7 (gN l 0))), (.n .u8 (r18_8 (gN l 1))), (.n .u8 (r18_9 (gN l 1))), (.n .u8 (r18_10 (gN l 1))), (.n .u8 (r18_11 (gN l 1))), (.n .u8 (r18_12 (gN l 1))), (.n .u8 (r18_13 (gN l 1))), (.n .u8 (r18_14 (gN l 1))), (.n .u8 (r18_15 (gN l 1))), (.n .u8 (r18_16 (gN l 2))), (.n .u8 (r18_17 (gN l 2))), (.n .u8 (r18_18 (gN l 2))), (.n .u8 (r18_19 (gN l 2))), (.n .u8 (r18_20 (gN l 2))), (.n .u8 (r18_21 (gN l 2))), (.n .u8 (r18_22 (gN l 2))), (.n .u8 (r18_23 (gN l 2))), (.n .u8 (r18_24 (gN l 3))), (.n .u8 (r18_25 (gN l 3))), (.n .u8 (r18_26 (gN l 3))), (.n .u8 (r18_27 (gN l 3))), (.n .u8 (r18_28 (gN l 3))), (.n .u8 (r18_29 (gN l 3))), (.n .u8 (r18_30 (gN l 3))), (.n .u8 (r18_31 (gN l 3))), (.n .u8 (r18_32 (gN l 4))), (.n .u8 (r18_33 (gN l 4))), (.n .u8 (r18_34 (gN l 4))), (.n .u8 (r18_35 (gN l 4))), (.n .u8 (r18_36 (gN l 4))), (.n .u8 (r18_37 (gN l 4))), (.n .u8 (r18_38 (gN l 4))), (.n .u8 (r18_39 (gN l 4))), (.n .u8 (r18_40 (gN l 5))), (.n .u8 (r18_41 (gN l 5))), (.n .u8 (r18_42 (gN l 5))), (.n .u8 (r18_43 (gN l 5))), (.n .u8 (r18_44 (gN l 5))), (.n .u8 (r18_45 (gN l 5))), (.n .u8 (r18_46 (gN l 5))), (.n .u8 (r18_47 (gN l 5))), (.n .u8 (r18_48 (gN l 6))), (.n .u8 (r18_49 (gN l 6))), (.n .u8 (r18_50 (gN l 6))), (.n .u8 (r18_51 (gN l 6))), (.n .u8 (r18_52 (gN l 6))), (.n .u8 (r18_53 (gN l 6))), (.n .u8 (r18_54 (gN l 6))), (.n .u8 (r18_55 (gN l 6))), (.n .u8 (r18_56 (gN l 7))), (.n .u8 (r18_57 (gN l 7))), (.n .u8 (r18_58 (gN l 7))), (.n .u8 (r18_59 (gN l 7))), (.n .u8 (r18_60 (gN l 7))), (.n .u8 (r18_61 (gN l 7))), (.n .u8 (r18_62 (gN l 7))), (.n .u8 (r18_63 (gN l 7)))]))
theorem s18 : SpecF Try.prog 18 (.pure F18) :=
  spec_merged (sy := y18) (fuel := 100) (Lp := noLoops) o11 mixed ⟨Try.func18, by kernel_rfl, by kernel_rfl⟩ (noLoops_ok _) sg18 (.one (true, [.n .u8, .n .u8, .n .u8, .n .u8, .n .u8, .n .u8, .n .u8, .n .u8, .n .u8, .n .u8, .n .u8, .n .u8, .n .u8, .n .u8, .n .u8, .n .u8, .n .u8, .n .u8, .n .u8, .n .u8, .n .u8, .n .u8, .n .u8, .n .u8, .n .u8, .n .u8, .n .u8, .n .u8, .n .u8, .n .u8, .n .u8, .n .u8, .n .u8, .n .u8, .n .u8, .n .u8, .n .u8, .n .u8, .n .u8, .n .u8, .n .u8, .n .u8, .n .u8, .n .u8, .n .u8, .n .u8, .n .u8, .n .u8, .n .u8, .n .u8, .n .u8, .n .u8, .n .u8, .n .u8, .n .u8, .n .u8, .n .u8, .n .u8, .n .u8, .n .u8, .n .u8, .n .u8, .n .u8, .n .u8])) (T := TL18) e18 (fun l => by kernel_rfl) (fun ts => by kernel_rfl)
def Γ18 : Specs := upd Γ11 18 (.pure F18)
theorem o18 : SpecOK Try.prog Γ18 := SpecOK.upd o11 s18

/-! ### 19 -/

def T19 (x0 : Int) (x1 : Int) (x2 : Int) (x3 : Int) (x4 : Int) (x5 : Int) (x6 : Int) (x7 : Int) : Tr TV :=
 .ok (.v (.agg [(.n .u8 (IntKind.u8.wrap (x0.fdiv 1))), (.n .u8 (IntKind.u8.wrap (x0.fdiv 256))), (.n .u8 (IntKind.u8.wrap (x0.fdiv 65536))), (.n .u8 (IntKind.u8.wrap (x0.fdiv 16777216))), (.n .u8 (IntKind.u8.wrap (x0.fdiv 4294967296))), (.n .u8 (IntKind.u8.wrap (x0.fdiv 1099511627776))), (.n .u8 (IntKind.u8.wrap (x0.fdiv 281474976710656))), (.n .u8 (IntKind.u8.wrap (x0.fdiv 72057594037927936))), (.n .u8 (IntKind.u8.wrap (x1.fdiv 1))), (.n .u8 (IntKind.u8.wrap (x1.fdiv 256))), (.n .u8 (IntKind.u8.wrap (x1.fdiv 65536))), (.n .u8 (IntKind.u8.wrap (x1.fdiv 16777216))), (.n .u8 (IntKind.u8.wrap (x1.fdiv 4294967296))), (.n .u8 (IntKind.u8.wrap (x1.fdiv 1099511627776))), (.n .u8 (IntKind.u8.wrap (x1.fdiv 281474976710656))), (.n .u8 (IntKind.u8.wrap (x1.fdiv 72057594037927936))), (.n .u8 (IntKind.u8.wrap (x2.fdiv 1))), (.n .u8 (IntKind.u8.wrap (x2.fdiv 256))), (.n .u8 (IntKind.u8.wrap (x2.fdiv 65536))), (.n .u8 (IntKind.u8.wrap (x2.fdiv 16777216))), (.n .u8 (IntKind.u8.wrap (x2.fdiv 4294967296))), (.n .u8 (IntKind.u8.wrap (x2.fdiv 1099511627776))), (.n .u8 (IntKind.u8.wrap (x2.fdiv 281474976710656))), (.n .u8 (IntKind.u8.wrap (x2.fdiv 72057594037927936))), (.n .u8 (IntKind.u8.wrap (x3.fdiv 1))), (.n .u8 (IntKind.u8.wrap (x3.fdiv 256))), (.n .u8 (IntKind.u8.wrap (x3.fdiv 65536))), (.n .u8 (IntKind.u8.wrap (x3.fdiv 16777216))), (.n .u8 (IntKind.u8.wrap (x3.fdiv 4294967296))), (.n .u8 (IntKind.u8.wrap (x3.fdiv 1099511627776))), (.n .u8 (IntKind.u8.wrap (x3.fdiv 281474976710656))), (.n .u8 (IntKind.u8.wrap (x3.fdiv 72057594037927936))), (.n .u8 (IntKind.u8.wrap (x4.fdiv 1))), (.n .u8 (IntKind.u8.wrap (x4.fdiv 256))), (.n .u8 (IntKind.u8.wrap (x4.fdiv 65536))), (.n .u8 (IntKind.u8.wrap (x4.fdiv 16777216))), (.n .u8 (IntKind.u8.wrap (x4.fdiv 4294967296))), (.n .u8 (IntKind.u8.wrap (x4.fdiv 1099511627776))), (.n .u8 (IntKind.u8.wrap (x4.fdiv 281474976710656))), (.n .u8 (IntKind.u8.wrap (x4.fdiv 72057594037927936))), (.n .u8 (IntKind.u8.wrap (x5.fdiv 1))), (.n .u8 (IntKind.u8.wrap (x5.fdiv 256))), (.n .u8 (IntKind.u8.wrap (x5.fdiv 65536))), (.n .u8 (IntKind.u8.wrap (x5.fdiv 16777216))), (.n .u8 (IntKind.u8.wrap (x5.fdiv 4294967296))), (.n .u8 (IntKind.u8.wrap (x5.fdiv 1099511627776))), (.n .u8 (IntKind.u8.wrap (x5.fdiv 281474976710656))), (.n .u8 (IntKind.u8.wrap (x5.fdiv 72057594037927936))), (.n .u8 (IntKind.u8.wrap (x6.fdiv 1))), (.n .u8 (IntKind.u8.wrap (x6.fdiv 256))), (.n .u8 (IntKind.u8.wrap (x6.fdiv 65536))), (.n .u8 (IntKind.u8.wrap (x6.fdiv 16777216))), (.n .u8 (IntKind.u8.wrap (x6.fdiv 4294967296))), (.n .u8 (IntKind.u8.wrap (x6.fdiv 1099511627776))), (.n .u8 (IntKind.u8.wrap (x6.fdiv 281474976710656))), (.n .u8 (IntKind.u8.wrap (x6.fdiv 72057594037927936))), (.n .u8 (IntKind.u8.wrap (x7.fdiv 1))), (.n .u8 (IntKind.u8.wrap (x7.fdiv 256))), (.n .u8 (IntKind.u8.wrap (x7.fdiv 65536))), (.n .u8 (IntKind.u8.wrap (x7.fdiv 16777216))), (.n .u8 (IntKind.u8.wrap (x7.fdiv 4294967296))), (.n .u8 (IntKind.u8.wrap (x7.fdiv 1099511627776))), (.n .u8 (IntKind.u8.wrap (x7.fdiv 281474976710656))), (.n .u8 (IntKind.u8.wrap (x7.fdiv 72057594037927936)))]))
def y19 : Nat → Option Nat := syOf []
def TL19 (l : List AS) : Tr TV := T19 (gN l 0) (gN l 1) (gN l 2) (gN l 3) (gN l 4) (gN l 5) (gN l 6) (gN l 7)
def sg19 : Sig := [(true, [.n .u64, .n .u64, .n .u64, .n .u64, .n .u64, .n .u64, .n .u64, .n .u64])]
theorem e19 (l : List AS) : callV Try.prog Γ18 y19 noLoops 100 Try.f19 ((mkAVs l 0 sg19).map .v) [] = TL19 l := by kernel_rfl
def r19_0 (x0 : Int) : Int :=
  IntKind.u8.wrap (x0.fdiv 1)
def r19_1 (x0 : Int) : Int :=
  IntKind.u8.wrap (x0.fdiv 256)
def r19_2 (x0 : Int) : Int :=
  IntKind.u8.wrap (x0.fdiv 65536)
def r19_3 (x0 : Int) : Int :=
  IntKind.u8.wrap (x0.fdiv 16777216)
def r19_4 (x0 : Int) : Int :=
  IntKind.u8.wrap (x0.fdiv 4294967296)
def r19_5 (x0 : Int) : Int :=
  IntKind.u8.wrap (x0.fdiv 1099511627776)
def r19_6 (x0 : Int) : Int :=
  IntKind.u8.wrap (x0.fdiv 281474976710656)
def r19_7 (x0 : Int) : Int :=
  IntKind.u8.wrap (x0.fdiv 72057594037927936)
def r19_8 (x1 : Int) : Int :=
  IntKind.u8.wrap (x1.fdiv 1)
def r19_9 (x1 : Int) : Int :=
  IntKind.u8.wrap (x1.fdiv 256)
def r19_10 (x1 : Int) : Int :=
  IntKind.u8.wrap (x1.fdiv 65536)
def r19_11 (x1 : Int) : Int :=
  IntKind.u8.wrap (x1.fdiv 16777216)
def r19_12 (x1 : Int) : Int :=
  IntKind.u8.wrap (x1.fdiv 4294967296)
def r19_13 (x1 : Int) : Int :=
  IntKind.u8.wrap (x1.fdiv 1099511627776)
def r19_14 (x1 : Int) : Int :=
  IntKind.u8.wrap (x1.fdiv 281474976710656)
def r19_15 (x1 : Int) : Int :=
  IntKind.u8.wrap (x1.fdiv 72057594037927936)
def r19_16 (x2 : Int) : Int :=
  IntKind.u8.wrap (x2.fdiv 1)
def r19_17 (x2 : Int) : Int :=
  IntKind.u8.wrap (x2.fdiv 256)
def r19_18 (x2 : Int) : Int :=
  IntKind.u8.wrap (x2.fdiv 65536)
def r19_19 (x2 : Int) : Int :=
  IntKind.u8.wrap (x2.fdiv 16777216)
def r19_20 (x2 : Int) : Int :=
  IntKind.u8.wrap (x2.fdiv 4294967296)
def r19_21 (x2 : Int) : Int :=
  IntKind.u8.wrap (x2.fdiv 1099511627776)
def r19_22 (x2 : Int) : Int :=
  IntKind.u8.wrap (x2.fdiv 281474976710656)
def r19_23 (x2 : Int) : Int :=
  IntKind.u8.wrap (x2.fdiv 72057594037927936)
def r19_24 (x3 : Int) : Int :=
  IntKind.u8.wrap (x3.fdiv 1)
def r19_25 (x3 : Int) : Int :=
  IntKind.u8.wrap (x3.fdiv 256)
def r19_26 (x3 : Int) : Int :=
  IntKind.u8.wrap (x3.fdiv 65536)
def r19_27 (x3 : Int) : Int :=
  IntKind.u8.wrap (x3.fdiv 16777216)
def r19_28 (x3 : Int) : Int :=
  IntKind.u8.wrap (x3.fdiv 4294967296)
def r19_29 (x3 : Int) : Int :=
  IntKind.u8.wrap (x3.fdiv 1099511627776)
def r19_30 (x3 : Int) : Int :=
  IntKind.u8.wrap (x3.fdiv 281474976710656)
def r19_31 (x3 : Int) : Int :=
  IntKind.u8.wrap (x3.fdiv 72057594037927936)
def r19_32 (x4 : Int) : Int :=
  IntKind.u8.wrap (x4.fdiv 1)
def r19_33 (x4 : Int) : Int :=
  IntKind.u8.wrap (x4.fdiv 256)
def r19_34 (x4 : Int) : Int :=
  IntKind.u8.wrap (x4.fdiv 65536)
def r19_35 (x4 : Int) : Int :=
  IntKind.u8.wrap (x4.fdiv 16777216)
def r19_36 (x4 : Int) : Int :=
  IntKind.u8.wrap (x4.fdiv 4294967296)
def r19_37 (x4 : Int) : Int :=
  IntKind.u8.wrap (x4.fdiv 1099511627776)
def r19_38 (x4 : Int) : Int :=
  IntKind.u8.wrap (x4.fdiv 281474976710656)
def r19_39 (x4 : Int) : Int :=
  IntKind.u8.wrap (x4.fdiv 72057594037927936)
def r19_40 (x5 : Int) : Int :=
  IntKind.u8.wrap (x5.fdiv 1)
def r19_41 (x5 : Int) : Int :=
  IntKind.u8.wrap (x5.fdiv 256)
def r19_42 (x5 : Int) : Int :=
  IntKind.u8.wrap (x5.fdiv 65536)
def r19_43 (x5 : Int) : Int :=
  IntKind.u8.wrap (x5.fdiv 16777216)
def r19_44 (x5 : Int) : Int :=
  IntKind.u8.wrap (x5.fdiv 4294967296)
def r19_45 (x5 : Int) : Int :=
  IntKind.u8.wrap (x5.fdiv 1099511627776)
def r19_46 (x5 : Int) : Int :=
  IntKind.u8.wrap (x5.fdiv 281474976710656)
def r19_47 (x5 : Int) : Int :=
  IntKind.u8.wrap (x5.fdiv 72057594037927936)
def r19_48 (x6 : Int) : Int :=
  IntKind.u8.wrap (x6.fdiv 1)
def r19_49 (x6 : Int) : Int :=
  IntKind.u8.wrap (x6.fdiv 256)
def r19_50 (x6 : Int) : Int :=
  IntKind.u8.wrap (x6.fdiv 65536)
def r19_51 (x6 : Int) : Int :=
  IntKind.u8.wrap (x6.fdiv 16777216)
def r19_52 (x6 : Int) : Int :=
  IntKind.u8.wrap (x6.fdiv 4294967296)
def r19_53 (x6 : Int) : Int :=
  IntKind.u8.wrap (x6.fdiv 1099511627776)
def r19_54 (x6 : Int) : Int :=
  IntKind.u8.wrap (x6.fdiv 281474976710656)
def r19_55 (x6 : Int) : Int :=
  IntKind.u8.wrap (x6.fdiv 72057594037927936)
def r19_56 (x7 : Int) : Int :=
  IntKind.u8.wrap (x7.fdiv 1)
def r19_57 (x7 : Int) : Int :=
  IntKind.u8.wrap (x7.fdiv 256)
def r19_58 (x7 : Int) : Int :=
  IntKind.u8.wrap (x7.fdiv 65536)
def r19_59 (x7 : Int) : Int :=
  IntKind.u8.wrap (x7.fdiv 16777216)
def r19_60 (x7 : Int) : Int :=
  IntKind.u8.wrap (x7.fdiv 4294967296)
def r19_61 (x7 : Int) : Int :=
  IntKind.u8.wrap (x7.fdiv 1099511627776)
def r19_62 (x7 : Int) : Int :=
  IntKind.u8.wrap (x7.fdiv 281474976710656)
def r19_63 (x7 : Int) : Int :=
  IntKind.u8.wrap (x7.fdiv 72057594037927936)
def F19 : List TV → Tr TV := fun ts => guardA sg19 ts fun l => .ok (.v (.agg [(.n .u8 (r19_0 (gN l 0))), (.n .u8 (r19_1 (gN l 0))), (.n .u8 (r19_2 (gN l 0))), (.n .u8 (r19_3 (gN l 0))), (.n .u8 (r19_4 (gN l 0))), (.n .u8 (r19_5 (gN l 0))), (.n .u8 (r19_6 (gN l 0))), (.n .u8 (r19_7 (gN l 0))), (.n .u8 (r19_8 (gN l 1))), (.n .u8 (r19_9 (gN l 1))), (.n .u8 (r19_10 (gN l 1))), (.n .u8 (r19_11 (gN l 1))), (.n .u8 (r19_12 (gN l 1))), (.n .u8 (r19_13 (gN l 1))), (.n .u8 (r19_14 (gN l 1))), (.n .u8 (r19_15 (gN l 1))), (.n .u8 (r19_16 (gN l 2))), (.n .u8 (r19_17 (gN l 2))), (.n .u8 (r19_18 (gN l 2))), (.n .u8 (r19_19 (gN l 2))), (.n .u8 (r19_20 (gN l 2))), (.n .u8 (r19_21 (gN l 2))), (.n .u8 (r19_22 (gN l 2))), (.n .u8 (r19_23 (gN l 2))), (.n .u8 (r19_24 (gN l 3))), (.n .u8 (r19_25 (gN l 3))), (.n .u8 (r19_26 (gN l 3))), (.n .u8 (r19_27 (gN l 3))), (.n .u8 (r19_28 (gN l 3))), (.n .u8 (r19_29 (gN l 3))), (.n .u8 (r19_30 (gN l 3))), (.n .u8 (r19_31 (gN l 3))), (.n .u8 (r19_32 (gN l 4))), (.n .u8 (r19_33 (gN l 4))), (.n .u8 (r19_34 (gN l 4))), (.n .u8 (r19_35 (gN l 4))), (.n .u8 (r19_36 (gN l 4))), (.n .u8 (r19_37 (gN l 4))), (.n .u8 (r19_38 (gN l 4))), (.n .u8 (r19_39 (gN l 4))), (.n .u8 (r19_40 (gN l 5))), (.n .u8 (r19_41 (gN l 5))), (.n .u8 (r19_42 (gN l 5))), (.n .u8 (r19_43 (gN l 5))), (.n .u8 (r19_44 (gN l 5))), (.n .u8 (r19_45 (gN l 5))), (.n .u8 (r19_46 (gN l 5))), (.n .u8 (r19_47 (gN l 5))), (.n .u8 (r19_48 (gN l 6))), (.n .u8 (r19_49 (gN l 6))), (.n .u8 (r19_50 (gN l 6))), (.n .u8 (r19_51 (gN l 6))), (.n .u8 (r19_52 (gN l 6))), (.n .u8 (r19_53 (gN l 6))), (.n .u8 (r19_54 (gN l 6))), (.n .u8 (r19_55 (gN l 6))), (.n .u8 (r19_56 (gN l 7))), (.n .u8 (r19_57 (gN l 7))), (.n .u8 (r19_58 (gN l 7))), (.n .u8 (r19_59 (gN l 7))), (.n .u8 (r19_60 (gN l 7))), (.n .u8 (r19_61 (gN l 7))), (.n .u8 (r19_62 (gN l 7))), (.n .u8 (r19_63 (gN l 7)))]))
theorem s19 : SpecF Try.prog 19 (.pure F19) :=
  spec_merged (sy := y19) (fuel := 100) (Lp := noLoops) o18 mixed ⟨Try.func19, by kernel_rfl, by kernel_rfl⟩ (noLoops_ok _) sg19 (.one (true, [.n .u8, .n .u8, .n .u8, .n .u8, .n .u8, .n .u8, .n .u8, .n .u8, .n .u8, .n .u8, .n .u8, .n .u8, .n .u8, .n .u8, .n .u8, .n .u8, .n .u8, .n .u8, .n .u8, .n .u8, .n .u8, .n .u8, .n .u8, .n .u8, .n .u8, .n .u8, .n .u8, .n .u8, .n .u8, .n .u8, .n .u8, .n .u8, .n .u8, .n .u8, .n .u8, .n .u8, .n .u8, .n .u8, .n .u8, .n .u8, .n .u8, .n .u8, .n .u8, .n .u8, .n .u8, .n .u8, .n .u8, .n .u8, .n .u8, .n .u8, .n .u8, .n .u8, .n .u8, .n .u8, .n .u8, .n .u8, .n .u8, .n .u8, .n .u8, .n .u8, .n .u8, .n .u8, .n .u8, .n .u8])) (T := TL19) e19 (fun l => by kernel_rfl) (fun ts => by kernel_rfl)
def Γ19 : Specs := upd Γ18 19 (.pure F19)
theorem o19 : SpecOK Try.prog Γ19 := SpecOK.upd o18 s19

/-! ### 20 -/

def T20 (x0 : Int) (x1 : Int) (x2 : Int) (x3 : Int) (x4 : Int) (x5 : Int) (x6 : Int) (x7 : Int) (x8 : Int) (x9 : Int) (x10 : Int) (x11 : Int) (x12 : Int) (x13 : Int) (x14 : Int) (x15 : Int) (x16 : Int) (x17 : Int) (x18 : Int) (x19 : Int) (x20 : Int) (x21 : Int) (x22 : Int) (x23 : Int) (x24 : Int) (x25 : Int) (x26 : Int) (x27 : Int) (x28 : Int) (x29 : Int) (x30 : Int) (x31 : Int) (x32 : Int) (x33 : Int) (x34 : Int) (x35 : Int) (x36 : Int) (x37 : Int) (x38 : Int) (x39 : Int) (x40 : Int) (x41 : Int) (x42 : Int) (x43 : Int) (x44 : Int) (x45 : Int) (x46 : Int) (x47 : Int) (x48 : Int) (x49 : Int) (x50 : Int) (x51 : Int) (x52 : Int) (x53 : Int) (x54 : Int) (x55 : Int) (x56 : Int) (x57 : Int) (x58 : Int) (x59 : Int) (x60 : Int) (x61 : Int) (x62 : Int) (x63 : Int) : Tr TV :=
 .ok (.v (.agg [(.n .u64 (bits BinOp.or IntKind.u64   (bits BinOp.or IntKind.u64     (bits BinOp.or IntKind.u64       (bits BinOp.or IntKind.u64         (bits BinOp.or IntKind.u64           (bits BinOp.or IntKind.u64             (bits BinOp.or IntKind.u64 (bits BinOp.or IntKind.u64 0 (IntKind.u64.wrap (IntKind.u64.wrap x0 * 1)))               (IntKind.u64.wrap (IntKind.u64.wrap x1 * 256)))             (IntKind.u64.wrap (IntKind.u64.wrap x2 * 65536)))           (IntKind.u64.wrap (IntKind.u64.wrap x3 * 16777216)))         (IntKind.u64.wrap (IntKind.u64.wrap x4 * 4294967296)))       (IntKind.u64.wrap (IntKind.u64.wrap x5 * 1099511627776)))     (IntKind.u64.wrap (IntKind.u64.wrap x6 * 281474976710656)))   (IntKind.u64.wrap (IntKind.u64.wrap x7 * 72057594037927936)))), (.n .u64 (bits BinOp.or IntKind.u64   (bits BinOp.or IntKind.u64     (bits BinOp.or IntKind.u64       (bits BinOp.or IntKind.u64         (bits BinOp.or IntKind.u64           (bits BinOp.or IntKind.u64             (bits BinOp.or IntKind.u64 (bits BinOp.or IntKind.u64 0 (IntKind.u64.wrap (IntKind.u64.wrap x8 * 1)))               (IntKind.u64.wrap (IntKind.u64.wrap x9 * 256)))             (IntKind.u64.wrap (IntKind.u64.wrap x10 * 65536)))           (IntKind.u64.wrap (IntKind.u64.wrap x11 * 16777216)))         (IntKind.u64.wrap (IntKind.u64.wrap x12 * 4294967296)))       (IntKind.u64.wrap (IntKind.u64.wrap x13 * 1099511627776)))     (IntKind.u64.wrap (IntKind.u64.wrap x14 * 281474976710656)))   (IntKind.u64.wrap (IntKind.u64.wrap x15 * 72057594037927936)))), (.n .u64 (bits BinOp.or IntKind.u64   (bits BinOp.or IntKind.u64     (bits BinOp.or IntKind.u64       (bits BinOp.or IntKind.u64         (bits BinOp.or IntKind.u64           (bits BinOp.or IntKind.u64             (bits BinOp.or IntKind.u64 (bits BinOp.or IntKind.u64 0 (IntKind.u64.wrap (IntKind.u64.wrap x16 * 1)))               (IntKind.u64.wrap (IntKind.u64.wrap x17 * 256)))             (IntKind.u64.wrap (IntKind.u64.wrap x18 * 65536)))           (IntKind.u64.wrap (IntKind.u64.wrap x19 * 16777216)))         (IntKind.u64.wrap (IntKind.u64.wrap x20 * 4294967296)))       (IntKind.u64.wrap (IntKind.u64.wrap x21 * 1099511627776)))     (IntKind.u64.wrap (IntKind.u64.wrap x22 * 281474976710656)))   (IntKind.u64.wrap (IntKind.u64.wrap x23 * 72057594037927936)))), (.n .u64 (bits BinOp.or IntKind.u64   (bits BinOp.or IntKind.u64     (bits BinOp.or IntKind.u64       (bits BinOp.or IntKind.u64         (bits BinOp.or IntKind.u64           (bits BinOp.or IntKind.u64             (bits BinOp.or IntKind.u64 (bits BinOp.or IntKind.u64 0 (IntKind.u64.wrap (IntKind.u64.wrap x24 * 1)))               (IntKind.u64.wrap (IntKind.u64.wrap x25 * 256)))             (IntKind.u64.wrap (IntKind.u64.wrap x26 * 65536)))           (IntKind.u64.wrap (IntKind.u64.wrap x27 * 16777216)))         (IntKind.u64.wrap (IntKind.u64.wrap x28 * 4294967296)))       (IntKind.u64.wrap (IntKind.u64.wrap x29 * 1099511627776)))     (IntKind.u64.wrap (IntKind.u64.wrap x30 * 281474976710656)))   (IntKind.u64.wrap (IntKind.u64.wrap x31 * 72057594037927936)))), (.n .u64 (bits BinOp.or IntKind.u64   (bits BinOp.or IntKind.u64     (bits BinOp.or IntKind.u64       (bits BinOp.or IntKind.u64         (bits BinOp.or IntKind.u64           (bits BinOp.or IntKind.u64             (bits BinOp.or IntKind.u64 (bits BinOp.or IntKind.u64 0 (IntKind.u64.wrap (IntKind.u64.wrap x32 * 1)))               (IntKind.u64.wrap (IntKind.u64.wrap x33 * 256)))             (IntKind.u64.wrap (IntKind.u64.wrap x34 * 65536)))           (IntKind.u64.wrap (IntKind.u64.wrap x35 * 16777216)))         (IntKind.u64.wrap (IntKind.u64.wrap x36 * 4294967296)))       (IntKind.u64.wrap (IntKind.u64.wrap x37 * 1099511627776)))     (IntKind.u64.wrap (IntKind.u64.wrap x38 * 281474976710656)))   (IntKind.u64.wrap (IntKind.u64.wrap x39 * 72057594037927936)))), (.n .u64 (bits BinOp.or IntKind.u64   (bits BinOp.or IntKind.u64     (bits BinOp.or IntKind.u64       (bits BinOp.or IntKind.u64         (bits BinOp.or IntKind.u64           (bits BinOp.or IntKind.u64             (bits BinOp.or IntKind.u64 (bits BinOp.or IntKind.u64 0 (IntKind.u64.wrap (IntKind.u64.wrap x40 * 1)))               (IntKind.u64.wrap (IntKind.u64.wrap x41 * 256)))             (IntKind.u64.wrap (IntKind.u64.wrap x42 * 65536)))           (IntKind.u64.wrap (IntKind.u64.wrap x43 * 16777216)))         (IntKind.u64.wrap (IntKind.u64.wrap x44 * 4294967296)))       (IntKind.u64.wrap (IntKind.u64.wrap x45 * 1099511627776)))     (IntKind.u64.wrap (IntKind.u64.wrap x46 * 281474976710656)))   (IntKind.u64.wrap (IntKind.u64.wrap x47 * 72057594037927936)))), (.n .u64 (bits BinOp.or IntKind.u64   (bits BinOp.or IntKind.u64     (bits BinOp.or IntKind.u64       (bits BinOp.or IntKind.u64         (bits BinOp.or IntKind.u64           (bits BinOp.or IntKind.u64             (bits BinOp.or IntKind.u64 (bits BinOp.or IntKind.u64 0 (IntKind.u64.wrap (IntKind.u64.wrap x48 * 1)))               (IntKind.u64.wrap (IntKind.u64.wrap x49 * 256)))             (IntKind.u64.wrap (IntKind.u64.wrap x50 * 65536)))           (IntKind.u64.wrap (IntKind.u64.wrap x51 * 16777216)))         (IntKind.u64.wrap (IntKind.u64.wrap x52 * 4294967296)))       (IntKind.u64.wrap (IntKind.u64.wrap x53 * 1099511627776)))     (IntKind.u64.wrap (IntKind.u64.wrap x54 * 281474976710656)))   (IntKind.u64.wrap (IntKind.u64.wrap x55 * 72057594037927936)))), (.n .u64 (bits BinOp.or IntKind.u64   (bits BinOp.or IntKind.u64     (bits BinOp.or IntKind.u64       (bits BinOp.or IntKind.u64         (bits BinOp.or IntKind.u64           (bits BinOp.or IntKind.u64             (bits BinOp.or IntKind.u64 (bits BinOp.or IntKind.u64 0 (IntKind.u64.wrap (IntKind.u64.wrap x56 * 1)))               (IntKind.u64.wrap (IntKind.u64.wrap x57 * 256)))             (IntKind.u64.wrap (IntKind.u64.wrap x58 * 65536)))           (IntKind.u64.wrap (IntKind.u64.wrap x59 * 16777216)))         (IntKind.u64.wrap (IntKind.u64.wrap x60 * 4294967296)))       (IntKind.u64.wrap (IntKind.u64.wrap x61 * 1099511627776)))     (IntKind.u64.wrap (IntKind.u64.wrap x62 * 281474976710656)))   (IntKind.u64.wrap (IntKind.u64.wrap x63 * 72057594037927936))))]))
def y20 : Nat → Option Nat := syOf []
def TL20 (l : List AS) : Tr TV := T20 (gN l 0) (gN l 1) (gN l 2) (gN l 3) (gN l 4) (gN l 5) (gN l 6) (gN l 7) (gN l 8) (gN l 9) (gN l 10) (gN l 11) (gN l 12) (gN l 13) (gN l 14) (gN l 15) (gN l 16) (gN l 17) (gN l 18) (gN l 19) (gN l 20) (gN l 21) (gN l 22) (gN l 23) (gN l 24) (gN l 25) (gN l 26) (gN l 27) (gN l 28) (gN l 29) (gN l 30) (gN l 31) (gN l 32) (gN l 33) (gN l 34) (gN l 35) (gN l 36) (gN l 37) (gN l 38) (gN l 39) (gN l 40) (gN l 41) (gN l 42) (gN l 43) (gN l 44) (gN l 45) (gN l 46) (gN l 47) (gN l 48) (gN l 49) (gN l 50) (gN l 51) (gN l 52) (gN l 53) (gN l 54) (gN l 55) (gN l 56) (gN l 57) (gN l 58) (gN l 59) (gN l 60) (gN l 61) (gN l 62) (gN l 63)
def sg20 : Sig := [(true, [.n .u8, .n .u8, .n .u8, .n .u8, .n .u8, .n .u8, .n .u8, .n .u8, .n .u8, .n .u8, .n .u8, .n .u8, .n .u8, .n .u8, .n .u8, .n .u8, .n .u8, .n .u8, .n .u8, .n .u8, .n .u8, .n .u8, .n .u8, .n .u8, .n .u8, .n .u8, .n .u8, .n .u8, .n .u8, .n .u8, .n .u8, .n .u8, .n .u8, .n .u8, .n .u8, .n .u8, .n .u8, .n .u8, .n .u8, .n .u8, .n .u8, .n .u8, .n .u8, .n .u8, .n .u8, .n .u8, .n .u8, .n .u8, .n .u8, .n .u8, .n .u8, .n .u8, .n .u8, .n .u8, .n .u8, .n .u8, .n .u8, .n .u8, .n .u8, .n .u8, .n .u8, .n .u8, .n .u8, .n .u8])]
theorem e20 (l : List AS) : callV Try.prog Γ19 y20 noLoops 100 Try.f20 ((mkAVs l 0 sg20).map .v) [] = TL20 l := by kernel_rfl
def r20_0 (x0 : Int) (x1 : Int) (x2 : Int) (x3 : Int) (x4 : Int) (x5 : Int) (x6 : Int) (x7 : Int) : Int :=
  bits BinOp.or IntKind.u64   (bits BinOp.or IntKind.u64     (bits BinOp.or IntKind.u64       (bits BinOp.or IntKind.u64         (bits BinOp.or IntKind.u64           (bits BinOp.or IntKind.u64             (bits BinOp.or IntKind.u64 (bits BinOp.or IntKind.u64 0 (IntKind.u64.wrap (IntKind.u64.wrap x0 * 1)))               (IntKind.u64.wrap (IntKind.u64.wrap x1 * 256)))             (IntKind.u64.wrap (IntKind.u64.wrap x2 * 65536)))           (IntKind.u64.wrap (IntKind.u64.wrap x3 * 16777216)))         (IntKind.u64.wrap (IntKind.u64.wrap x4 * 4294967296)))       (IntKind.u64.wrap (IntKind.u64.wrap x5 * 1099511627776)))     (IntKind.u64.wrap (IntKind.u64.wrap x6 * 281474976710656)))   (IntKind.u64.wrap (IntKind.u64.wrap x7 * 72057594037927936))
def r20_1 (x8 : Int) (x9 : Int) (x10 : Int) (x11 : Int) (x12 : Int) (x13 : Int) (x14 : Int) (x15 : Int) : Int :=
  bits BinOp.or IntKind.u64   (bits BinOp.or IntKind.u64     (bits BinOp.or IntKind.u64       (bits BinOp.or IntKind.u64         (bits BinOp.or IntKind.u64           (bits BinOp.or IntKind.u64             (bits BinOp.or IntKind.u64 (bits BinOp.or IntKind.u64 0 (IntKind.u64.wrap (IntKind.u64.wrap x8 * 1)))               (IntKind.u64.wrap (IntKind.u64.wrap x9 * 256)))             (IntKind.u64.wrap (IntKind.u64.wrap x10 * 65536)))           (IntKind.u64.wrap (IntKind.u64.wrap x11 * 16777216)))         (IntKind.u64.wrap (IntKind.u64.wrap x12 * 4294967296)))       (IntKind.u64.wrap (IntKind.u64.wrap x13 * 1099511627776)))     (IntKind.u64.wrap (IntKind.u64.wrap x14 * 281474976710656)))   (IntKind.u64.wrap (IntKind.u64.wrap x15 * 72057594037927936))
def r20_2 (x16 : Int) (x17 : Int) (x18 : Int) (x19 : Int) (x20 : Int) (x21 : Int) (x22 : Int) (x23 : Int) : Int :=
  bits BinOp.or IntKind.u64   (bits BinOp.or IntKind.u64     (bits BinOp.or IntKind.u64       (bits BinOp.or IntKind.u64         (bits BinOp.or IntKind.u64           (bits BinOp.or IntKind.u64             (bits BinOp.or IntKind.u64 (bits BinOp.or IntKind.u64 0 (IntKind.u64.wrap (IntKind.u64.wrap x16 * 1)))               (IntKind.u64.wrap (IntKind.u64.wrap x17 * 256)))             (IntKind.u64.wrap (IntKind.u64.wrap x18 * 65536)))           (IntKind.u64.wrap (IntKind.u64.wrap x19 * 16777216)))         (IntKind.u64.wrap (IntKind.u64.wrap x20 * 4294967296)))       (IntKind.u64.wrap (IntKind.u64.wrap x21 * 1099511627776)))     (IntKind.u64.wrap (IntKind.u64.wrap x22 * 281474976710656)))   (IntKind.u64.wrap (IntKind.u64.wrap x23 * 72057594037927936))
def r20_3 (x24 : Int) (x25 : Int) (x26 : Int) (x27 : Int) (x28 : Int) (x29 : Int) (x30 : Int) (x31 : Int) : Int :=
  bits BinOp.or IntKind.u64   (bits BinOp.or IntKind.u64     (bits BinOp.or IntKind.u64       (bits BinOp.or IntKind.u64         (bits BinOp.or IntKind.u64           (bits BinOp.or IntKind.u64             (bits BinOp.or IntKind.u64 (bits BinOp.or IntKind.u64 0 (IntKind.u64.wrap (IntKind.u64.wrap x24 * 1)))               (IntKind.u64.wrap (IntKind.u64.wrap x25 * 256)))             (IntKind.u64.wrap (IntKind.u64.wrap x26 * 65536)))           (IntKind.u64.wrap (IntKind.u64.wrap x27 * 16777216)))         (IntKind.u64.wrap (IntKind.u64.wrap x28 * 4294967296)))       (IntKind.u64.wrap (IntKind.u64.wrap x29 * 1099511627776)))     (IntKind.u64.wrap (IntKind.u64.wrap x30 * 281474976710656)))   (IntKind.u64.wrap (IntKind.u64.wrap x31 * 72057594037927936))
def r20_4 (x32 : Int) (x33 : Int) (x34 : Int) (x35 : Int) (x36 : Int) (x37 : Int) (x38 : Int) (x39 : Int) : Int :=
  bits BinOp.or IntKind.u64   (bits BinOp.or IntKind.u64     (bits BinOp.or IntKind.u64       (bits BinOp.or IntKind.u64         (bits BinOp.or IntKind.u64           (bits BinOp.or IntKind.u64             (bits BinOp.or IntKind.u64 (bits BinOp.or IntKind.u64 0 (IntKind.u64.wrap (IntKind.u64.wrap x32 * 1)))               (IntKind.u64.wrap (IntKind.u64.wrap x33 * 256)))             (IntKind.u64.wrap (IntKind.u64.wrap x34 * 65536)))           (IntKind.u64.wrap (IntKind.u64.wrap x35 * 16777216)))         (IntKind.u64.wrap (IntKind.u64.wrap x36 * 4294967296)))       (IntKind.u64.wrap (IntKind.u64.wrap x37 * 1099511627776)))     (IntKind.u64.wrap (IntKind.u64.wrap x38 * 281474976710656)))   (IntKind.u64.wrap (IntKind.u64.wrap x39 * 72057594037927936))
def r20_5 (x40 : Int) (x41 : Int) (x42 : Int) (x43 : Int) (x44 : Int) (x45 : Int) (x46 : Int) (x47 : Int) : Int :=
  bits BinOp.or IntKind.u64   (bits BinOp.or IntKind.u64     (bits BinOp.or IntKind.u64       (bits BinOp.or IntKind.u64         (bits BinOp.or IntKind.u64           (bits BinOp.or IntKind.u64             (bits BinOp.or IntKind.u64 (bits BinOp.or IntKind.u64 0 (IntKind.u64.wrap (IntKind.u64.wrap x40 * 1)))               (IntKind.u64.wrap (IntKind.u64.wrap x41 * 256)))             (IntKind.u64.wrap (IntKind.u64.wrap x42 * 65536)))           (IntKind.u64.wrap (IntKind.u64.wrap x43 * 16777216)))         (IntKind.u64.wrap (IntKind.u64.wrap x44 * 4294967296)))       (IntKind.u64.wrap (IntKind.u64.wrap x45 * 1099511627776)))     (IntKind.u64.wrap (IntKind.u64.wrap x46 * 281474976710656)))   (IntKind.u64.wrap (IntKind.u64.wrap x47 * 72057594037927936))
def r20_6 (x48 : Int) (x49 : Int) (x50 : Int) (x51 : Int) (x52 : Int) (x53 : Int) (x54 : Int) (x55 : Int) : Int :=
  bits BinOp.or IntKind.u64   (bits BinOp.or IntKind.u64     (bits BinOp.or IntKind.u64       (bits BinOp.or IntKind.u64         (bits BinOp.or IntKind.u64           (bits BinOp.or IntKind.u64             (bits BinOp.or IntKind.u64 (bits BinOp.or IntKind.u64 0 (IntKind.u64.wrap (IntKind.u64.wrap x48 * 1)))               (IntKind.u64.wrap (IntKind.u64.wrap x49 * 256)))             (IntKind.u64.wrap (IntKind.u64.wrap x50 * 65536)))           (IntKind.u64.wrap (IntKind.u64.wrap x51 * 16777216)))         (IntKind.u64.wrap (IntKind.u64.wrap x52 * 4294967296)))       (IntKind.u64.wrap (IntKind.u64.wrap x53 * 1099511627776)))     (IntKind.u64.wrap (IntKind.u64.wrap x54 * 281474976710656)))   (IntKind.u64.wrap (IntKind.u64.wrap x55 * 72057594037927936))
def r20_7 (x56 : Int) (x57 : Int) (x58 : Int) (x59 : Int) (x60 : Int) (x61 : Int) (x62 : Int) (x63 : Int) : Int :=
  bits BinOp.or IntKind.u64   (bits BinOp.or IntKind.u64     (bits BinOp.or IntKind.u64       (bits BinOp.or IntKind.u64         (bits BinOp.or IntKind.u64           (bits BinOp.or IntKind.u64             (bits BinOp.or IntKind.u64 (bits BinOp.or IntKind.u64 0 (IntKind.u64.wrap (IntKind.u64.wrap x56 * 1)))               (IntKind.u64.wrap (IntKind.u64.wrap x57 * 256)))             (IntKind.u64.wrap (IntKind.u64.wrap x58 * 65536)))           (IntKind.u64.wrap (IntKind.u64.wrap x59 * 16777216)))         (IntKind.u64.wrap (IntKind.u64.wrap x60 * 4294967296)))       (IntKind.u64.wrap (IntKind.u64.wrap x61 * 1099511627776)))     (IntKind.u64.wrap (IntKind.u64.wrap x62 * 281474976710656)))   (IntKind.u64.wrap (IntKind.u64.wrap x63 * 72057594037927936))
def F20 : List TV → Tr TV := fun ts => guardA sg20 ts fun l => .ok (.v (.agg [(.n .u64 (r20_0 (gN l 0) (gN l 1) (gN l 2) (gN l 3) (gN l 4) (gN l 5) (gN l 6) (gN l 7))), (.n .u64 (r20_1 (gN l 8) (gN l 9) (gN l 10) (gN l 11) (gN l 12) (gN l 13) (gN l 14) (gN l 15))), (.n .u64 (r20_2 (gN l 16) (gN l 17) (gN l 18) (gN l 19) (gN l 20) (gN l 21) (gN l 22) (gN l 23))), (.n .u64 (r20_3 (gN l 24) (gN l 25) (gN l 26) (gN l 27) (gN l 28) (gN l 29) (gN l 30) (gN l 31))), (.n .u64 (r20_4 (gN l 32) (gN l 33) (gN l 34) (gN l 35) (gN l 36) (gN l 37) (gN l 38) (gN l 39))), (.n .u64 (r20_5 (gN l 40) (gN l 41) (gN l 42) (gN l 43) (gN l 44) (gN l 45) (gN l 46) (gN l 47))), (.n .u64 (r20_6 (gN l 48) (gN l 49) (gN l 50) (gN l 51) (gN l 52) (gN l 53) (gN l 54) (gN l 55))), (.n .u64 (r20_7 (gN l 56) (gN l 57) (gN l 58) (gN l 59) (gN l 60) (gN l 61) (gN l 62) (gN l 63)))]))
theorem s20 : SpecF Try.prog 20 (.pure F20) :=
  spec_merged (sy := y20) (fuel := 100) (Lp := noLoops) o19 mixed ⟨Try.func20, by kernel_rfl, by kernel_rfl⟩ (noLoops_ok _) sg20 (.one (true, [.n .u64, .n .u64, .n .u64, .n .u64, .n .u64, .n .u64, .n .u64, .n .u64])) (T := TL20) e20 (fun l => by kernel_rfl) (fun ts => by kernel_rfl)
def Γ20 : Specs := upd Γ19 20 (.pure F20)
theorem o20 : SpecOK Try.prog Γ20 := SpecOK.upd o19 s20

/-! ### 21 -/

def T21 (x0 : Int) (x1 : Int) (x2 : Int) (x3 : Int) (x4 : Int) (x5 : Int) (x6 : Int) (x7 : Int) (x8 : Int) (x9 : Int) (x10 : Int) (x11 : Int) (x12 : Int) (x13 : Int) (x14 : Int) (x15 : Int) (x16 : Int) (x17 : Int) (x18 : Int) (x19 : Int) (x20 : Int) (x21 : Int) (x22 : Int) (x23 : Int) (x24 : Int) (x25 : Int) (x26 : Int) (x27 : Int) (x28 : Int) (x29 : Int) (x30 : Int) (x31 : Int) (x32 : Int) (x33 : Int) (x34 : Int) (x35 : Int) (x36 : Int) (x37 : Int) (x38 : Int) (x39 : Int) (x40 : Int) (x41 : Int) (x42 : Int) (x43 : Int) (x44 : Int) (x45 : Int) (x46 : Int) (x47 : Int) (x48 : Int) (x49 : Int) (x50 : Int) (x51 : Int) (x52 : Int) (x53 : Int) (x54 : Int) (x55 : Int) (x56 : Int) (x57 : Int) (x58 : Int) (x59 : Int) (x60 : Int) (x61 : Int) (x62 : Int) (x63 : Int) : Tr TV :=
 .ok (.v (.agg [(.n .u64 (bits BinOp.or IntKind.u64   (bits BinOp.or IntKind.u64     (bits BinOp.or IntKind.u64       (bits BinOp.or IntKind.u64         (bits BinOp.or IntKind.u64           (bits BinOp.or IntKind.u64             (bits BinOp.or IntKind.u64 (bits BinOp.or IntKind.u64 0 (IntKind.u64.wrap (IntKind.u64.wrap x0 * 1)))               (IntKind.u64.wrap (IntKind.u64.wrap x1 * 256)))             (IntKind.u64.wrap (IntKind.u64.wrap x2 * 65536)))           (IntKind.u64.wrap (IntKind.u64.wrap x3 * 16777216)))         (IntKind.u64.wrap (IntKind.u64.wrap x4 * 4294967296)))       (IntKind.u64.wrap (IntKind.u64.wrap x5 * 1099511627776)))     (IntKind.u64.wrap (IntKind.u64.wrap x6 * 281474976710656)))   (IntKind.u64.wrap (IntKind.u64.wrap x7 * 72057594037927936)))), (.n .u64 (bits BinOp.or IntKind.u64   (bits BinOp.or IntKind.u64     (bits BinOp.or IntKind.u64       (bits BinOp.or IntKind.u64         (bits BinOp.or IntKind.u64           (bits BinOp.or IntKind.u64             (bits BinOp.or IntKind.u64 (bits BinOp.or IntKind.u64 0 (IntKind.u64.wrap (IntKind.u64.wrap x8 * 1)))               (IntKind.u64.wrap (IntKind.u64.wrap x9 * 256)))             (IntKind.u64.wrap (IntKind.u64.wrap x10 * 65536)))           (IntKind.u64.wrap (IntKind.u64.wrap x11 * 16777216)))         (IntKind.u64.wrap (IntKind.u64.wrap x12 * 4294967296)))       (IntKind.u64.wrap (IntKind.u64.wrap x13 * 1099511627776)))     (IntKind.u64.wrap (IntKind.u64.wrap x14 * 281474976710656)))   (IntKind.u64.wrap (IntKind.u64.wrap x15 * 72057594037927936)))), (.n .u64 (bits BinOp.or IntKind.u64   (bits BinOp.or IntKind.u64     (bits BinOp.or IntKind.u64       (bits BinOp.or IntKind.u64         (bits BinOp.or IntKind.u64           (bits BinOp.or IntKind.u64             (bits BinOp.or IntKind.u64 (bits BinOp.or IntKind.u64 0 (IntKind.u64.wrap (IntKind.u64.wrap x16 * 1)))               (IntKind.u64.wrap (IntKind.u64.wrap x17 * 256)))             (IntKind.u64.wrap (IntKind.u64.wrap x18 * 65536)))           (IntKind.u64.wrap (IntKind.u64.wrap x19 * 16777216)))         (IntKind.u64.wrap (IntKind.u64.wrap x20 * 4294967296)))       (IntKind.u64.wrap (IntKind.u64.wrap x21 * 1099511627776)))     (IntKind.u64.wrap (IntKind.u64.wrap x22 * 281474976710656)))   (IntKind.u64.wrap (IntKind.u64.wrap x23 * 72057594037927936)))), (.n .u64 (bits BinOp.or IntKind.u64   (bits BinOp.or IntKind.u64     (bits BinOp.or IntKind.u64       (bits BinOp.or IntKind.u64         (bits BinOp.or IntKind.u64           (bits BinOp.or IntKind.u64             (bits BinOp.or IntKind.u64 (bits BinOp.or IntKind.u64 0 (IntKind.u64.wrap (IntKind.u64.wrap x24 * 1)))               (IntKind.u64.wrap (IntKind.u64.wrap x25 * 256)))             (IntKind.u64.wrap (IntKind.u64.wrap x26 * 65536)))           (IntKind.u64.wrap (IntKind.u64.wrap x27 * 16777216)))         (IntKind.u64.wrap (IntKind.u64.wrap x28 * 4294967296)))       (IntKind.u64.wrap (IntKind.u64.wrap x29 * 1099511627776)))     (IntKind.u64.wrap (IntKind.u64.wrap x30 * 281474976710656)))   (IntKind.u64.wrap (IntKind.u64.wrap x31 * 72057594037927936)))), (.n .u64 (bits BinOp.or IntKind.u64   (bits BinOp.or IntKind.u64     (bits BinOp.or IntKind.u64       (bits BinOp.or IntKind.u64         (bits BinOp.or IntKind.u64           (bits BinOp.or IntKind.u64             (bits BinOp.or IntKind.u64 (bits BinOp.or IntKind.u64 0 (IntKind.u64.wrap (IntKind.u64.wrap x32 * 1)))               (IntKind.u64.wrap (IntKind.u64.wrap x33 * 256)))             (IntKind.u64.wrap (IntKind.u64.wrap x34 * 65536)))           (IntKind.u64.wrap (IntKind.u64.wrap x35 * 16777216)))         (IntKind.u64.wrap (IntKind.u64.wrap x36 * 4294967296)))       (IntKind.u64.wrap (IntKind.u64.wrap x37 * 1099511627776)))     (IntKind.u64.wrap (IntKind.u64.wrap x38 * 281474976710656)))   (IntKind.u64.wrap (IntKind.u64.wrap x39 * 72057594037927936)))), (.n .u64 (bits BinOp.or IntKind.u64   (bits BinOp.or IntKind.u64     (bits BinOp.or IntKind.u64       (bits BinOp.or IntKind.u64         (bits BinOp.or IntKind.u64           (bits BinOp.or IntKind.u64             (bits BinOp.or IntKind.u64 (bits BinOp.or IntKind.u64 0 (IntKind.u64.wrap (IntKind.u64.wrap x40 * 1)))               (IntKind.u64.wrap (IntKind.u64.wrap x41 * 256)))             (IntKind.u64.wrap (IntKind.u64.wrap x42 * 65536)))           (IntKind.u64.wrap (IntKind.u64.wrap x43 * 16777216)))         (IntKind.u64.wrap (IntKind.u64.wrap x44 * 4294967296)))       (IntKind.u64.wrap (IntKind.u64.wrap x45 * 1099511627776)))     (IntKind.u64.wrap (IntKind.u64.wrap x46 * 281474976710656)))   (IntKind.u64.wrap (IntKind.u64.wrap x47 * 72057594037927936)))), (.n .u64 (bits BinOp.or IntKind.u64   (bits BinOp.or IntKind.u64     (bits BinOp.or IntKind.u64       (bits BinOp.or IntKind.u64         (bits BinOp.or IntKind.u64           (bits BinOp.or IntKind.u64             (bits BinOp.or IntKind.u64 (bits BinOp.or IntKind.u64 0 (IntKind.u64.wrap (IntKind.u64.wrap x48 * 1)))               (IntKind.u64.wrap (IntKind.u64.wrap x49 * 256)))             (IntKind.u64.wrap (IntKind.u64.wrap x50 * 65536)))           (IntKind.u64.wrap (IntKind.u64.wrap x51 * 16777216)))         (IntKind.u64.wrap (IntKind.u64.wrap x52 * 4294967296)))       (IntKind.u64.wrap (IntKind.u64.wrap x53 * 1099511627776)))     (IntKind.u64.wrap (IntKind.u64.wrap x54 * 281474976710656)))   (IntKind.u64.wrap (IntKind.u64.wrap x55 * 72057594037927936)))), (.n .u64 (bits BinOp.or IntKind.u64   (bits BinOp.or IntKind.u64     (bits BinOp.or IntKind.u64       (bits BinOp.or IntKind.u64         (bits BinOp.or IntKind.u64           (bits BinOp.or IntKind.u64             (bits BinOp.or IntKind.u64 (bits BinOp.or IntKind.u64 0 (IntKind.u64.wrap (IntKind.u64.wrap x56 * 1)))               (IntKind.u64.wrap (IntKind.u64.wrap x57 * 256)))             (IntKind.u64.wrap (IntKind.u64.wrap x58 * 65536)))           (IntKind.u64.wrap (IntKind.u64.wrap x59 * 16777216)))         (IntKind.u64.wrap (IntKind.u64.wrap x60 * 4294967296)))       (IntKind.u64.wrap (IntKind.u64.wrap x61 * 1099511627776)))     (IntKind.u64.wrap (IntKind.u64.wrap x62 * 281474976710656)))   (IntKind.u64.wrap (IntKind.u64.wrap x63 * 72057594037927936))))]))
def y21 : Nat → Option Nat := syOf []
def TL21 (l : List AS) : Tr TV := T21 (gN l 0) (gN l 1) (gN l 2) (gN l 3) (gN l 4) (gN l 5) (gN l 6) (gN l 7) (gN l 8) (gN l 9) (gN l 10) (gN l 11) (gN l 12) (gN l 13) (gN l 14) (gN l 15) (gN l 16) (gN l 17) (gN l 18) (gN l 19) (gN l 20) (gN l 21) (gN l 22) (gN l 23) (gN l 24) (gN l 25) (gN l 26) (gN l 27) (gN l 28) (gN l 29) (gN l 30) (gN l 31) (gN l 32) (gN l 33) (gN l 34) (gN l 35) (gN l 36) (gN l 37) (gN l 38) (gN l 39) (gN l 40) (gN l 41) (gN l 42) (gN l 43) (gN l 44) (gN l 45) (gN l 46) (gN l 47) (gN l 48) (gN l 49) (gN l 50) (gN l 51) (gN l 52) (gN l 53) (gN l 54) (gN l 55) (gN l 56) (gN l 57) (gN l 58) (gN l 59) (gN l 60) (gN l 61) (gN l 62) (gN l 63)
def sg21 : Sig := [(true, [.n .u8, .n .u8, .n .u8, .n .u8, .n .u8, .n .u8, .n .u8, .n .u8, .n .u8, .n .u8, .n .u8, .n .u8, .n .u8, .n .u8, .n .u8, .n .u8, .n .u8, .n .u8, .n .u8, .n .u8, .n .u8, .n .u8, .n .u8, .n .u8, .n .u8, .n .u8, .n .u8, .n .u8, .n .u8, .n .u8, .n .u8, .n .u8, .n .u8, .n .u8, .n .u8, .n .u8, .n .u8, .n .u8, .n .u8, .n .u8, .n .u8, .n .u8, .n .u8, .n .u8, .n .u8, .n .u8, .n .u8, .n .u8, .n .u8, .n .u8, .n .u8, .n .u8, .n .u8, .n .u8, .n .u8, .n .u8, .n .u8, .n .u8, .n .u8, .n .u8, .n .u8, .n .u8, .n .u8, .n .u8])]
theorem e21 (l : List AS) : callV Try.prog Γ20 y21 noLoops 100 Try.f21 ((mkAVs l 0 sg21).map .v) [] = TL21 l := by kernel_rfl
def r21_0 (x0 : Int) (x1 : Int) (x2 : Int) (x3 : Int) (x4 : Int) (x5 : Int) (x6 : Int) (x7 : Int) : Int :=
  bits BinOp.or IntKind.u64   (bits BinOp.or IntKind.u64     (bits BinOp.or IntKind.u64       (bits BinOp.or IntKind.u64         (bits BinOp.or IntKind.u64           (bits BinOp.or IntKind.u64             (bits BinOp.or IntKind.u64 (bits BinOp.or IntKind.u64 0 (IntKind.u64.wrap (IntKind.u64.wrap x0 * 1)))               (IntKind.u64.wrap (IntKind.u64.wrap x1 * 256)))             (IntKind.u64.wrap (IntKind.u64.wrap x2 * 65536)))           (IntKind.u64.wrap (IntKind.u64.wrap x3 * 16777216)))         (IntKind.u64.wrap (IntKind.u64.wrap x4 * 4294967296)))       (IntKind.u64.wrap (IntKind.u64.wrap x5 * 1099511627776)))     (IntKind.u64.wrap (IntKind.u64.wrap x6 * 281474976710656)))   (IntKind.u64.wrap (IntKind.u64.wrap x7 * 72057594037927936))
def r21_1 (x8 : Int) (x9 : Int) (x10 : Int) (x11 : Int) (x12 : Int) (x13 : Int) (x14 : Int) (x15 : Int) : Int :=
  bits BinOp.or IntKind.u64   (bits BinOp.or IntKind.u64     (bits BinOp.or IntKind.u64       (bits BinOp.or IntKind.u64         (bits BinOp.or IntKind.u64           (bits BinOp.or IntKind.u64             (bits BinOp.or IntKind.u64 (bits BinOp.or IntKind.u64 0 (IntKind.u64.wrap (IntKind.u64.wrap x8 * 1)))               (IntKind.u64.wrap (IntKind.u64.wrap x9 * 256)))             (IntKind.u64.wrap (IntKind.u64.wrap x10 * 65536)))           (IntKind.u64.wrap (IntKind.u64.wrap x11 * 16777216)))         (IntKind.u64.wrap (IntKind.u64.wrap x12 * 4294967296)))       (IntKind.u64.wrap (IntKind.u64.wrap x13 * 1099511627776)))     (IntKind.u64.wrap (IntKind.u64.wrap x14 * 281474976710656)))   (IntKind.u64.wrap (IntKind.u64.wrap x15 * 72057594037927936))
def r21_2 (x16 : Int) (x17 : Int) (x18 : Int) (x19 : Int) (x20 : Int) (x21 : Int) (x22 : Int) (x23 : Int) : Int :=
  bits BinOp.or IntKind.u64   (bits BinOp.or IntKind.u64     (bits BinOp.or IntKind.u64       (bits BinOp.or IntKind.u64         (bits BinOp.or IntKind.u64           (bits BinOp.or IntKind.u64             (bits BinOp.or IntKind.u64 (bits BinOp.or IntKind.u64 0 (IntKind.u64.wrap (IntKind.u64.wrap x16 * 1)))               (IntKind.u64.wrap (IntKind.u64.wrap x17 * 256)))             (IntKind.u64.wrap (IntKind.u64.wrap x18 * 65536)))           (IntKind.u64.wrap (IntKind.u64.wrap x19 * 16777216)))         (IntKind.u64.wrap (IntKind.u64.wrap x20 * 4294967296)))       (IntKind.u64.wrap (IntKind.u64.wrap x21 * 1099511627776)))     (IntKind.u64.wrap (IntKind.u64.wrap x22 * 281474976710656)))   (IntKind.u64.wrap (IntKind.u64.wrap x23 * 72057594037927936))
def r21_3 (x24 : Int) (x25 : Int) (x26 : Int) (x27 : Int) (x28 : Int) (x29 : Int) (x30 : Int) (x31 : Int) : Int :=
  bits BinOp.or IntKind.u64   (bits BinOp.or IntKind.u64     (bits BinOp.or IntKind.u64       (bits BinOp.or IntKind.u64         (bits BinOp.or IntKind.u64           (bits BinOp.or IntKind.u64             (bits BinOp.or IntKind.u64 (bits BinOp.or IntKind.u64 0 (IntKind.u64.wrap (IntKind.u64.wrap x24 * 1)))               (IntKind.u64.wrap (IntKind.u64.wrap x25 * 256)))             (IntKind.u64.wrap (IntKind.u64.wrap x26 * 65536)))           (IntKind.u64.wrap (IntKind.u64.wrap x27 * 16777216)))         (IntKind.u64.wrap (IntKind.u64.wrap x28 * 4294967296)))       (IntKind.u64.wrap (IntKind.u64.wrap x29 * 1099511627776)))     (IntKind.u64.wrap (IntKind.u64.wrap x30 * 281474976710656)))   (IntKind.u64.wrap (IntKind.u64.wrap x31 * 72057594037927936))
def r21_4 (x32 : Int) (x33 : Int) (x34 : Int) (x35 : Int) (x36 : Int) (x37 : Int) (x38 : Int) (x39 : Int) : Int :=
  bits BinOp.or IntKind.u64   (bits BinOp.or IntKind.u64     (bits BinOp.or IntKind.u64       (bits BinOp.or IntKind.u64         (bits BinOp.or IntKind.u64           (bits BinOp.or IntKind.u64             (bits BinOp.or IntKind.u64 (bits BinOp.or IntKind.u64 0 (IntKind.u64.wrap (IntKind.u64.wrap x32 * 1)))               (IntKind.u64.wrap (IntKind.u64.wrap x33 * 256)))             (IntKind.u64.wrap (IntKind.u64.wrap x34 * 65536)))           (IntKind.u64.wrap (IntKind.u64.wrap x35 * 16777216)))         (IntKind.u64.wrap (IntKind.u64.wrap x36 * 4294967296)))       (IntKind.u64.wrap (IntKind.u64.wrap x37 * 1099511627776)))     (IntKind.u64.wrap (IntKind.u64.wrap x38 * 281474976710656)))   (IntKind.u64.wrap (IntKind.u64.wrap x39 * 72057594037927936))
def r21_5 (x40 : Int) (x41 : Int) (x42 : Int) (x43 : Int) (x44 : Int) (x45 : Int) (x46 : Int) (x47 : Int) : Int :=
  bits BinOp.or IntKind.u64   (bits BinOp.or IntKind.u64     (bits BinOp.or IntKind.u64       (bits BinOp.or IntKind.u64         (bits BinOp.or IntKind.u64           (bits BinOp.or IntKind.u64             (bits BinOp.or IntKind.u64 (bits BinOp.or IntKind.u64 0 (IntKind.u64.wrap (IntKind.u64.wrap x40 * 1)))               (IntKind.u64.wrap (IntKind.u64.wrap x41 * 256)))             (IntKind.u64.wrap (IntKind.u64.wrap x42 * 65536)))           (IntKind.u64.wrap (IntKind.u64.wrap x43 * 16777216)))         (IntKind.u64.wrap (IntKind.u64.wrap x44 * 4294967296)))       (IntKind.u64.wrap (IntKind.u64.wrap x45 * 1099511627776)))     (IntKind.u64.wrap (IntKind.u64.wrap x46 * 281474976710656)))   (IntKind.u64.wrap (IntKind.u64.wrap x47 * 72057594037927936))
def r21_6 (x48 : Int) (x49 : Int) (x50 : Int) (x51 : Int) (x52 : Int) (x53 : Int) (x54 : Int) (x55 : Int) : Int :=
  bits BinOp.or IntKind.u64   (bits BinOp.or IntKind.u64     (bits BinOp.or IntKind.u64       (bits BinOp.or IntKind.u64         (bits BinOp.or IntKind.u64           (bits BinOp.or IntKind.u64             (bits BinOp.or IntKind.u64 (bits BinOp.or IntKind.u64 0 (IntKind.u64.wrap (IntKind.u64.wrap x48 * 1)))               (IntKind.u64.wrap (IntKind.u64.wrap x49 * 256)))             (IntKind.u64.wrap (IntKind.u64.wrap x50 * 65536)))           (IntKind.u64.wrap (IntKind.u64.wrap x51 * 16777216)))         (IntKind.u64.wrap (IntKind.u64.wrap x52 * 4294967296)))       (IntKind.u64.wrap (IntKind.u64.wrap x53 * 1099511627776)))     (IntKind.u64.wrap (IntKind.u64.wrap x54 * 281474976710656)))   (IntKind.u64.wrap (IntKind.u64.wrap x55 * 72057594037927936))
def r21_7 (x56 : Int) (x57 : Int) (x58 : Int) (x59 : Int) (x60 : Int) (x61 : Int) (x62 : Int) (x63 : Int) : Int :=
  bits BinOp.or IntKind.u64   (bits BinOp.or IntKind.u64     (bits BinOp.or IntKind.u64       (bits BinOp.or IntKind.u64         (bits BinOp.or IntKind.u64           (bits BinOp.or IntKind.u64             (bits BinOp.or IntKind.u64 (bits BinOp.or IntKind.u64 0 (IntKind.u64.wrap (IntKind.u64.wrap x56 * 1)))               (IntKind.u64.wrap (IntKind.u64.wrap x57 * 256)))             (IntKind.u64.wrap (IntKind.u64.wrap x58 * 65536)))           (IntKind.u64.wrap (IntKind.u64.wrap x59 * 16777216)))         (IntKind.u64.wrap (IntKind.u64.wrap x60 * 4294967296)))       (IntKind.u64.wrap (IntKind.u64.wrap x61 * 1099511627776)))     (IntKind.u64.wrap (IntKind.u64.wrap x62 * 281474976710656)))   (IntKind.u64.wrap (IntKind.u64.wrap x63 * 72057594037927936))
def F21 : List TV → Tr TV := fun ts => guardA sg21 ts fun l => .ok (.v (.agg [(.n .u64 (r21_0 (gN l 0) (gN l 1) (gN l 2) (gN l 3) (gN l 4) (gN l 5) (gN l 6) (gN l 7))), (.n .u64 (r21_1 (gN l 8) (gN l 9) (gN l 10) (gN l 11) (gN l 12) (gN l 13) (gN l 14) (gN l 15))), (.n .u64 (r21_2 (gN l 16) (gN l 17) (gN l 18) (gN l 19) (gN l 20) (gN l 21) (gN l 22) (gN l 23))), (.n .u64 (r21_3 (gN l 24) (gN l 25) (gN l 26) (gN l 27) (gN l 28) (gN l 29) (gN l 30) (gN l 31))), (.n .u64 (r21_4 (gN l 32) (gN l 33) (gN l 34) (gN l 35) (gN l 36) (gN l 37) (gN l 38) (gN l 39))), (.n .u64 (r21_5 (gN l 40) (gN l 41) (gN l 42) (gN l 43) (gN l 44) (gN l 45) (gN l 46) (gN l 47))), (.n .u64 (r21_6 (gN l 48) (gN l 49) (gN l 50) (gN l 51) (gN l 52) (gN l 53) (gN l 54) (gN l 55))), (.n .u64 (r21_7 (gN l 56) (gN l 57) (gN l 58) (gN l 59) (gN l 60) (gN l 61) (gN l 62) (gN l 63)))]))
theorem s21 : SpecF Try.prog 21 (.pure F21) :=
  spec_merged (sy := y21) (fuel := 100) (Lp := noLoops) o20 mixed ⟨Try.func21, by kernel_rfl, by kernel_rfl⟩ (noLoops_ok _) sg21 (.one (true, [.n .u64, .n .u64, .n .u64, .n .u64, .n .u64, .n .u64, .n .u64, .n .u64])) (T := TL21) e21 (fun l => by kernel_rfl) (fun ts => by kernel_rfl)
def Γ21 : Specs := upd Γ20 21 (.pure F21)
theorem o21 : SpecOK Try.prog Γ21 := SpecOK.upd o20 s21

end Go.Proofs.Ytgohhgkonbenbaa.G

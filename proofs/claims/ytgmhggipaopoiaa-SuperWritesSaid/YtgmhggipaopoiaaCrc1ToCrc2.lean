/-
  What functions of the seat compute, printed by a program from the explorer.
-/
import Derived.Test.YtgmhggipaopoiaaRows
import Derived.Test.YtgmhggipaopoiaaAn8ToAnR
import Derived.KernelRfl
section
namespace Go.Proofs.Ytgmhggipaopoiaa.G
open Go Go.AM Go.Proofs
theorem mixed : Try.prog.follows .mixedOrders = true := by kernel_rfl
/-! ### wordBytes -/

def ish_wordBytes : FSh := ⟨[.v true [.k (.n .u64), .k (.n .u64), .k (.n .u64), .k (.n .u64), .k (.n .u64), .k (.n .u64), .k (.n .u64), .k (.n .u64)]], []⟩
def osh_wordBytes : FSh := ⟨[.v true [.k (.n .u8), .k (.n .u8), .k (.n .u8), .k (.n .u8), .k (.n .u8), .k (.n .u8), .k (.n .u8), .k (.n .u8), .k (.n .u8), .k (.n .u8), .k (.n .u8), .k (.n .u8), .k (.n .u8), .k (.n .u8), .k (.n .u8), .k (.n .u8), .k (.n .u8), .k (.n .u8), .k (.n .u8), .k (.n .u8), .k (.n .u8), .k (.n .u8), .k (.n .u8), .k (.n .u8), .k (.n .u8), .k (.n .u8), .k (.n .u8), .k (.n .u8), .k (.n .u8), .k (.n .u8), .k (.n .u8), .k (.n .u8), .k (.n .u8), .k (.n .u8), .k (.n .u8), .k (.n .u8), .k (.n .u8), .k (.n .u8), .k (.n .u8), .k (.n .u8), .k (.n .u8), .k (.n .u8), .k (.n .u8), .k (.n .u8), .k (.n .u8), .k (.n .u8), .k (.n .u8), .k (.n .u8), .k (.n .u8), .k (.n .u8), .k (.n .u8), .k (.n .u8), .k (.n .u8), .k (.n .u8), .k (.n .u8), .k (.n .u8), .k (.n .u8), .k (.n .u8), .k (.n .u8), .k (.n .u8), .k (.n .u8), .k (.n .u8), .k (.n .u8), .k (.n .u8)]], []⟩
def T_wordBytes (x0 : Int) (x1 : Int) (x2 : Int) (x3 : Int) (x4 : Int) (x5 : Int) (x6 : Int) (x7 : Int) : Tr (List At) :=
 .ok [(.i (IntKind.wrap IntKind.u8 (Int.fdiv x0 (1 : Int)))), (.i (IntKind.wrap IntKind.u8 (Int.fdiv x0 (256 : Int)))), (.i (IntKind.wrap IntKind.u8 (Int.fdiv x0 (65536 : Int)))), (.i (IntKind.wrap IntKind.u8 (Int.fdiv x0 (16777216 : Int)))), (.i (IntKind.wrap IntKind.u8 (Int.fdiv x0 (4294967296 : Int)))), (.i (IntKind.wrap IntKind.u8 (Int.fdiv x0 (1099511627776 : Int)))), (.i (IntKind.wrap IntKind.u8 (Int.fdiv x0 (281474976710656 : Int)))), (.i (IntKind.wrap IntKind.u8 (Int.fdiv x0 (72057594037927936 : Int)))), (.i (IntKind.wrap IntKind.u8 (Int.fdiv x1 (1 : Int)))), (.i (IntKind.wrap IntKind.u8 (Int.fdiv x1 (256 : Int)))), (.i (IntKind.wrap IntKind.u8 (Int.fdiv x1 (65536 : Int)))), (.i (IntKind.wrap IntKind.u8 (Int.fdiv x1 (16777216 : Int)))), (.i (IntKind.wrap IntKind.u8 (Int.fdiv x1 (4294967296 : Int)))), (.i (IntKind.wrap IntKind.u8 (Int.fdiv x1 (1099511627776 : Int)))), (.i (IntKind.wrap IntKind.u8 (Int.fdiv x1 (281474976710656 : Int)))), (.i (IntKind.wrap IntKind.u8 (Int.fdiv x1 (72057594037927936 : Int)))), (.i (IntKind.wrap IntKind.u8 (Int.fdiv x2 (1 : Int)))), (.i (IntKind.wrap IntKind.u8 (Int.fdiv x2 (256 : Int)))), (.i (IntKind.wrap IntKind.u8 (Int.fdiv x2 (65536 : Int)))), (.i (IntKind.wrap IntKind.u8 (Int.fdiv x2 (16777216 : Int)))), (.i (IntKind.wrap IntKind.u8 (Int.fdiv x2 (4294967296 : Int)))), (.i (IntKind.wrap IntKind.u8 (Int.fdiv x2 (1099511627776 : Int)))), (.i (IntKind.wrap IntKind.u8 (Int.fdiv x2 (281474976710656 : Int)))), (.i (IntKind.wrap IntKind.u8 (Int.fdiv x2 (72057594037927936 : Int)))), (.i (IntKind.wrap IntKind.u8 (Int.fdiv x3 (1 : Int)))), (.i (IntKind.wrap IntKind.u8 (Int.fdiv x3 (256 : Int)))), (.i (IntKind.wrap IntKind.u8 (Int.fdiv x3 (65536 : Int)))), (.i (IntKind.wrap IntKind.u8 (Int.fdiv x3 (16777216 : Int)))), (.i (IntKind.wrap IntKind.u8 (Int.fdiv x3 (4294967296 : Int)))), (.i (IntKind.wrap IntKind.u8 (Int.fdiv x3 (1099511627776 : Int)))), (.i (IntKind.wrap IntKind.u8 (Int.fdiv x3 (281474976710656 : Int)))), (.i (IntKind.wrap IntKind.u8 (Int.fdiv x3 (72057594037927936 : Int)))), (.i (IntKind.wrap IntKind.u8 (Int.fdiv x4 (1 : Int)))), (.i (IntKind.wrap IntKind.u8 (Int.fdiv x4 (256 : Int)))), (.i (IntKind.wrap IntKind.u8 (Int.fdiv x4 (65536 : Int)))), (.i (IntKind.wrap IntKind.u8 (Int.fdiv x4 (16777216 : Int)))), (.i (IntKind.wrap IntKind.u8 (Int.fdiv x4 (4294967296 : Int)))), (.i (IntKind.wrap IntKind.u8 (Int.fdiv x4 (1099511627776 : Int)))), (.i (IntKind.wrap IntKind.u8 (Int.fdiv x4 (281474976710656 : Int)))), (.i (IntKind.wrap IntKind.u8 (Int.fdiv x4 (72057594037927936 : Int)))), (.i (IntKind.wrap IntKind.u8 (Int.fdiv x5 (1 : Int)))), (.i (IntKind.wrap IntKind.u8 (Int.fdiv x5 (256 : Int)))), (.i (IntKind.wrap IntKind.u8 (Int.fdiv x5 (65536 : Int)))), (.i (IntKind.wrap IntKind.u8 (Int.fdiv x5 (16777216 : Int)))), (.i (IntKind.wrap IntKind.u8 (Int.fdiv x5 (4294967296 : Int)))), (.i (IntKind.wrap IntKind.u8 (Int.fdiv x5 (1099511627776 : Int)))), (.i (IntKind.wrap IntKind.u8 (Int.fdiv x5 (281474976710656 : Int)))), (.i (IntKind.wrap IntKind.u8 (Int.fdiv x5 (72057594037927936 : Int)))), (.i (IntKind.wrap IntKind.u8 (Int.fdiv x6 (1 : Int)))), (.i (IntKind.wrap IntKind.u8 (Int.fdiv x6 (256 : Int)))), (.i (IntKind.wrap IntKind.u8 (Int.fdiv x6 (65536 : Int)))), (.i (IntKind.wrap IntKind.u8 (Int.fdiv x6 (16777216 : Int)))), (.i (IntKind.wrap IntKind.u8 (Int.fdiv x6 (4294967296 : Int)))), (.i (IntKind.wrap IntKind.u8 (Int.fdiv x6 (1099511627776 : Int)))), (.i (IntKind.wrap IntKind.u8 (Int.fdiv x6 (281474976710656 : Int)))), (.i (IntKind.wrap IntKind.u8 (Int.fdiv x6 (72057594037927936 : Int)))), (.i (IntKind.wrap IntKind.u8 (Int.fdiv x7 (1 : Int)))), (.i (IntKind.wrap IntKind.u8 (Int.fdiv x7 (256 : Int)))), (.i (IntKind.wrap IntKind.u8 (Int.fdiv x7 (65536 : Int)))), (.i (IntKind.wrap IntKind.u8 (Int.fdiv x7 (16777216 : Int)))), (.i (IntKind.wrap IntKind.u8 (Int.fdiv x7 (4294967296 : Int)))), (.i (IntKind.wrap IntKind.u8 (Int.fdiv x7 (1099511627776 : Int)))), (.i (IntKind.wrap IntKind.u8 (Int.fdiv x7 (281474976710656 : Int)))), (.i (IntKind.wrap IntKind.u8 (Int.fdiv x7 (72057594037927936 : Int))))]
def y_wordBytes : Nat → Option Nat := syOf3 [] [] []
def TL_wordBytes (l : List At) : Tr (List At) := T_wordBytes (aI l 0) (aI l 1) (aI l 2) (aI l 3) (aI l 4) (aI l 5) (aI l 6) (aI l 7)
theorem e_wordBytes (l : List At) : (call Try.prog noSpecs y_wordBytes noLoops 100 Try.f18 (mkV ish_wordBytes l) (mkH ish_wordBytes l)).bind (leafO 0 osh_wordBytes) = TL_wordBytes l := by kernel_rfl
def r_wordBytes_0 (x0 : Int) : Int :=
  IntKind.wrap IntKind.u8 (Int.fdiv x0 (1 : Int))
def r_wordBytes_1 (x0 : Int) : Int :=
  IntKind.wrap IntKind.u8 (Int.fdiv x0 (256 : Int))
def r_wordBytes_2 (x0 : Int) : Int :=
  IntKind.wrap IntKind.u8 (Int.fdiv x0 (65536 : Int))
def r_wordBytes_3 (x0 : Int) : Int :=
  IntKind.wrap IntKind.u8 (Int.fdiv x0 (16777216 : Int))
def r_wordBytes_4 (x0 : Int) : Int :=
  IntKind.wrap IntKind.u8 (Int.fdiv x0 (4294967296 : Int))
def r_wordBytes_5 (x0 : Int) : Int :=
  IntKind.wrap IntKind.u8 (Int.fdiv x0 (1099511627776 : Int))
def r_wordBytes_6 (x0 : Int) : Int :=
  IntKind.wrap IntKind.u8 (Int.fdiv x0 (281474976710656 : Int))
def r_wordBytes_7 (x0 : Int) : Int :=
  IntKind.wrap IntKind.u8 (Int.fdiv x0 (72057594037927936 : Int))
def r_wordBytes_8 (x1 : Int) : Int :=
  IntKind.wrap IntKind.u8 (Int.fdiv x1 (1 : Int))
def r_wordBytes_9 (x1 : Int) : Int :=
  IntKind.wrap IntKind.u8 (Int.fdiv x1 (256 : Int))
def r_wordBytes_10 (x1 : Int) : Int :=
  IntKind.wrap IntKind.u8 (Int.fdiv x1 (65536 : Int))
def r_wordBytes_11 (x1 : Int) : Int :=
  IntKind.wrap IntKind.u8 (Int.fdiv x1 (16777216 : Int))
def r_wordBytes_12 (x1 : Int) : Int :=
  IntKind.wrap IntKind.u8 (Int.fdiv x1 (4294967296 : Int))
def r_wordBytes_13 (x1 : Int) : Int :=
  IntKind.wrap IntKind.u8 (Int.fdiv x1 (1099511627776 : Int))
def r_wordBytes_14 (x1 : Int) : Int :=
  IntKind.wrap IntKind.u8 (Int.fdiv x1 (281474976710656 : Int))
def r_wordBytes_15 (x1 : Int) : Int :=
  IntKind.wrap IntKind.u8 (Int.fdiv x1 (72057594037927936 : Int))
def r_wordBytes_16 (x2 : Int) : Int :=
  IntKind.wrap IntKind.u8 (Int.fdiv x2 (1 : Int))
def r_wordBytes_17 (x2 : Int) : Int :=
  IntKind.wrap IntKind.u8 (Int.fdiv x2 (256 : Int))
def r_wordBytes_18 (x2 : Int) : Int :=
  IntKind.wrap IntKind.u8 (Int.fdiv x2 (65536 : Int))
def r_wordBytes_19 (x2 : Int) : Int :=
  IntKind.wrap IntKind.u8 (Int.fdiv x2 (16777216 : Int))
def r_wordBytes_20 (x2 : Int) : Int :=
  IntKind.wrap IntKind.u8 (Int.fdiv x2 (4294967296 : Int))
def r_wordBytes_21 (x2 : Int) : Int :=
  IntKind.wrap IntKind.u8 (Int.fdiv x2 (1099511627776 : Int))
def r_wordBytes_22 (x2 : Int) : Int :=
  IntKind.wrap IntKind.u8 (Int.fdiv x2 (281474976710656 : Int))
def r_wordBytes_23 (x2 : Int) : Int :=
  IntKind.wrap IntKind.u8 (Int.fdiv x2 (72057594037927936 : Int))
def r_wordBytes_24 (x3 : Int) : Int :=
  IntKind.wrap IntKind.u8 (Int.fdiv x3 (1 : Int))
def r_wordBytes_25 (x3 : Int) : Int :=
  IntKind.wrap IntKind.u8 (Int.fdiv x3 (256 : Int))
def r_wordBytes_26 (x3 : Int) : Int :=
  IntKind.wrap IntKind.u8 (Int.fdiv x3 (65536 : Int))
def r_wordBytes_27 (x3 : Int) : Int :=
  IntKind.wrap IntKind.u8 (Int.fdiv x3 (16777216 : Int))
def r_wordBytes_28 (x3 : Int) : Int :=
  IntKind.wrap IntKind.u8 (Int.fdiv x3 (4294967296 : Int))
def r_wordBytes_29 (x3 : Int) : Int :=
  IntKind.wrap IntKind.u8 (Int.fdiv x3 (1099511627776 : Int))
def r_wordBytes_30 (x3 : Int) : Int :=
  IntKind.wrap IntKind.u8 (Int.fdiv x3 (281474976710656 : Int))
def r_wordBytes_31 (x3 : Int) : Int :=
  IntKind.wrap IntKind.u8 (Int.fdiv x3 (72057594037927936 : Int))
def r_wordBytes_32 (x4 : Int) : Int :=
  IntKind.wrap IntKind.u8 (Int.fdiv x4 (1 : Int))
def r_wordBytes_33 (x4 : Int) : Int :=
  IntKind.wrap IntKind.u8 (Int.fdiv x4 (256 : Int))
def r_wordBytes_34 (x4 : Int) : Int :=
  IntKind.wrap IntKind.u8 (Int.fdiv x4 (65536 : Int))
def r_wordBytes_35 (x4 : Int) : Int :=
  IntKind.wrap IntKind.u8 (Int.fdiv x4 (16777216 : Int))
def r_wordBytes_36 (x4 : Int) : Int :=
  IntKind.wrap IntKind.u8 (Int.fdiv x4 (4294967296 : Int))
def r_wordBytes_37 (x4 : Int) : Int :=
  IntKind.wrap IntKind.u8 (Int.fdiv x4 (1099511627776 : Int))
def r_wordBytes_38 (x4 : Int) : Int :=
  IntKind.wrap IntKind.u8 (Int.fdiv x4 (281474976710656 : Int))
def r_wordBytes_39 (x4 : Int) : Int :=
  IntKind.wrap IntKind.u8 (Int.fdiv x4 (72057594037927936 : Int))
def r_wordBytes_40 (x5 : Int) : Int :=
  IntKind.wrap IntKind.u8 (Int.fdiv x5 (1 : Int))
def r_wordBytes_41 (x5 : Int) : Int :=
  IntKind.wrap IntKind.u8 (Int.fdiv x5 (256 : Int))
def r_wordBytes_42 (x5 : Int) : Int :=
  IntKind.wrap IntKind.u8 (Int.fdiv x5 (65536 : Int))
def r_wordBytes_43 (x5 : Int) : Int :=
  IntKind.wrap IntKind.u8 (Int.fdiv x5 (16777216 : Int))
def r_wordBytes_44 (x5 : Int) : Int :=
  IntKind.wrap IntKind.u8 (Int.fdiv x5 (4294967296 : Int))
def r_wordBytes_45 (x5 : Int) : Int :=
  IntKind.wrap IntKind.u8 (Int.fdiv x5 (1099511627776 : Int))
def r_wordBytes_46 (x5 : Int) : Int :=
  IntKind.wrap IntKind.u8 (Int.fdiv x5 (281474976710656 : Int))
def r_wordBytes_47 (x5 : Int) : Int :=
  IntKind.wrap IntKind.u8 (Int.fdiv x5 (72057594037927936 : Int))
def r_wordBytes_48 (x6 : Int) : Int :=
  IntKind.wrap IntKind.u8 (Int.fdiv x6 (1 : Int))
def r_wordBytes_49 (x6 : Int) : Int :=
  IntKind.wrap IntKind.u8 (Int.fdiv x6 (256 : Int))
def r_wordBytes_50 (x6 : Int) : Int :=
  IntKind.wrap IntKind.u8 (Int.fdiv x6 (65536 : Int))
def r_wordBytes_51 (x6 : Int) : Int :=
  IntKind.wrap IntKind.u8 (Int.fdiv x6 (16777216 : Int))
def r_wordBytes_52 (x6 : Int) : Int :=
  IntKind.wrap IntKind.u8 (Int.fdiv x6 (4294967296 : Int))
def r_wordBytes_53 (x6 : Int) : Int :=
  IntKind.wrap IntKind.u8 (Int.fdiv x6 (1099511627776 : Int))
def r_wordBytes_54 (x6 : Int) : Int :=
  IntKind.wrap IntKind.u8 (Int.fdiv x6 (281474976710656 : Int))
def r_wordBytes_55 (x6 : Int) : Int :=
  IntKind.wrap IntKind.u8 (Int.fdiv x6 (72057594037927936 : Int))
def r_wordBytes_56 (x7 : Int) : Int :=
  IntKind.wrap IntKind.u8 (Int.fdiv x7 (1 : Int))
def r_wordBytes_57 (x7 : Int) : Int :=
  IntKind.wrap IntKind.u8 (Int.fdiv x7 (256 : Int))
def r_wordBytes_58 (x7 : Int) : Int :=
  IntKind.wrap IntKind.u8 (Int.fdiv x7 (65536 : Int))
def r_wordBytes_59 (x7 : Int) : Int :=
  IntKind.wrap IntKind.u8 (Int.fdiv x7 (16777216 : Int))
def r_wordBytes_60 (x7 : Int) : Int :=
  IntKind.wrap IntKind.u8 (Int.fdiv x7 (4294967296 : Int))
def r_wordBytes_61 (x7 : Int) : Int :=
  IntKind.wrap IntKind.u8 (Int.fdiv x7 (1099511627776 : Int))
def r_wordBytes_62 (x7 : Int) : Int :=
  IntKind.wrap IntKind.u8 (Int.fdiv x7 (281474976710656 : Int))
def r_wordBytes_63 (x7 : Int) : Int :=
  IntKind.wrap IntKind.u8 (Int.fdiv x7 (72057594037927936 : Int))
def F_wordBytes : List At → Tr (List At) := fun l => .ok [.i (r_wordBytes_0 (aI l 0)), .i (r_wordBytes_1 (aI l 0)), .i (r_wordBytes_2 (aI l 0)), .i (r_wordBytes_3 (aI l 0)), .i (r_wordBytes_4 (aI l 0)), .i (r_wordBytes_5 (aI l 0)), .i (r_wordBytes_6 (aI l 0)), .i (r_wordBytes_7 (aI l 0)), .i (r_wordBytes_8 (aI l 1)), .i (r_wordBytes_9 (aI l 1)), .i (r_wordBytes_10 (aI l 1)), .i (r_wordBytes_11 (aI l 1)), .i (r_wordBytes_12 (aI l 1)), .i (r_wordBytes_13 (aI l 1)), .i (r_wordBytes_14 (aI l 1)), .i (r_wordBytes_15 (aI l 1)), .i (r_wordBytes_16 (aI l 2)), .i (r_wordBytes_17 (aI l 2)), .i (r_wordBytes_18 (aI l 2)), .i (r_wordBytes_19 (aI l 2)), .i (r_wordBytes_20 (aI l 2)), .i (r_wordBytes_21 (aI l 2)), .i (r_wordBytes_22 (aI l 2)), .i (r_wordBytes_23 (aI l 2)), .i (r_wordBytes_24 (aI l 3)), .i (r_wordBytes_25 (aI l 3)), .i (r_wordBytes_26 (aI l 3)), .i (r_wordBytes_27 (aI l 3)), .i (r_wordBytes_28 (aI l 3)), .i (r_wordBytes_29 (aI l 3)), .i (r_wordBytes_30 (aI l 3)), .i (r_wordBytes_31 (aI l 3)), .i (r_wordBytes_32 (aI l 4)), .i (r_wordBytes_33 (aI l 4)), .i (r_wordBytes_34 (aI l 4)), .i (r_wordBytes_35 (aI l 4)), .i (r_wordBytes_36 (aI l 4)), .i (r_wordBytes_37 (aI l 4)), .i (r_wordBytes_38 (aI l 4)), .i (r_wordBytes_39 (aI l 4)), .i (r_wordBytes_40 (aI l 5)), .i (r_wordBytes_41 (aI l 5)), .i (r_wordBytes_42 (aI l 5)), .i (r_wordBytes_43 (aI l 5)), .i (r_wordBytes_44 (aI l 5)), .i (r_wordBytes_45 (aI l 5)), .i (r_wordBytes_46 (aI l 5)), .i (r_wordBytes_47 (aI l 5)), .i (r_wordBytes_48 (aI l 6)), .i (r_wordBytes_49 (aI l 6)), .i (r_wordBytes_50 (aI l 6)), .i (r_wordBytes_51 (aI l 6)), .i (r_wordBytes_52 (aI l 6)), .i (r_wordBytes_53 (aI l 6)), .i (r_wordBytes_54 (aI l 6)), .i (r_wordBytes_55 (aI l 6)), .i (r_wordBytes_56 (aI l 7)), .i (r_wordBytes_57 (aI l 7)), .i (r_wordBytes_58 (aI l 7)), .i (r_wordBytes_59 (aI l 7)), .i (r_wordBytes_60 (aI l 7)), .i (r_wordBytes_61 (aI l 7)), .i (r_wordBytes_62 (aI l 7)), .i (r_wordBytes_63 (aI l 7))]
theorem s_wordBytes : SpecF Try.prog 18 (.pure (locP ish_wordBytes osh_wordBytes F_wordBytes)) :=
  spec_locP (sy := y_wordBytes) (fuel := 100) (Lp := noLoops) noSpecs_ok mixed ⟨Try.func18, by kernel_rfl, by kernel_rfl⟩ ish_wordBytes osh_wordBytes rfl (noLoops_ok _) (hT_merged [.i, .i, .i, .i, .i, .i, .i, .i, .i, .i, .i, .i, .i, .i, .i, .i, .i, .i, .i, .i, .i, .i, .i, .i, .i, .i, .i, .i, .i, .i, .i, .i, .i, .i, .i, .i, .i, .i, .i, .i, .i, .i, .i, .i, .i, .i, .i, .i, .i, .i, .i, .i, .i, .i, .i, .i, .i, .i, .i, .i, .i, .i, .i, .i] e_wordBytes (fun l => by kernel_rfl) (fun l => by kernel_rfl))
def Γ_wordBytes : Specs := upd noSpecs 18 (.pure (locP ish_wordBytes osh_wordBytes F_wordBytes))
theorem o_wordBytes : SpecOK Try.prog Γ_wordBytes := SpecOK.upd noSpecs_ok s_wordBytes

/-! ### refBytes -/

def ish_refBytes : FSh := ⟨[.v true [.k (.n .u64), .k (.n .u64), .k (.n .u64), .k (.n .u64), .k (.n .u64), .k (.n .u64), .k (.n .u64), .k (.n .u64)]], []⟩
def osh_refBytes : FSh := ⟨[.v true [.k (.n .u8), .k (.n .u8), .k (.n .u8), .k (.n .u8), .k (.n .u8), .k (.n .u8), .k (.n .u8), .k (.n .u8), .k (.n .u8), .k (.n .u8), .k (.n .u8), .k (.n .u8), .k (.n .u8), .k (.n .u8), .k (.n .u8), .k (.n .u8), .k (.n .u8), .k (.n .u8), .k (.n .u8), .k (.n .u8), .k (.n .u8), .k (.n .u8), .k (.n .u8), .k (.n .u8), .k (.n .u8), .k (.n .u8), .k (.n .u8), .k (.n .u8), .k (.n .u8), .k (.n .u8), .k (.n .u8), .k (.n .u8), .k (.n .u8), .k (.n .u8), .k (.n .u8), .k (.n .u8), .k (.n .u8), .k (.n .u8), .k (.n .u8), .k (.n .u8), .k (.n .u8), .k (.n .u8), .k (.n .u8), .k (.n .u8), .k (.n .u8), .k (.n .u8), .k (.n .u8), .k (.n .u8), .k (.n .u8), .k (.n .u8), .k (.n .u8), .k (.n .u8), .k (.n .u8), .k (.n .u8), .k (.n .u8), .k (.n .u8), .k (.n .u8), .k (.n .u8), .k (.n .u8), .k (.n .u8), .k (.n .u8), .k (.n .u8), .k (.n .u8), .k (.n .u8)]], []⟩
def T_refBytes (x0 : Int) (x1 : Int) (x2 : Int) (x3 : Int) (x4 : Int) (x5 : Int) (x6 : Int) (x7 : Int) : Tr (List At) :=
 .ok [(.i (IntKind.wrap IntKind.u8 (Int.fdiv x0 (1 : Int)))), (.i (IntKind.wrap IntKind.u8 (Int.fdiv x0 (256 : Int)))), (.i (IntKind.wrap IntKind.u8 (Int.fdiv x0 (65536 : Int)))), (.i (IntKind.wrap IntKind.u8 (Int.fdiv x0 (16777216 : Int)))), (.i (IntKind.wrap IntKind.u8 (Int.fdiv x0 (4294967296 : Int)))), (.i (IntKind.wrap IntKind.u8 (Int.fdiv x0 (1099511627776 : Int)))), (.i (IntKind.wrap IntKind.u8 (Int.fdiv x0 (281474976710656 : Int)))), (.i (IntKind.wrap IntKind.u8 (Int.fdiv x0 (72057594037927936 : Int)))), (.i (IntKind.wrap IntKind.u8 (Int.fdiv x1 (1 : Int)))), (.i (IntKind.wrap IntKind.u8 (Int.fdiv x1 (256 : Int)))), (.i (IntKind.wrap IntKind.u8 (Int.fdiv x1 (65536 : Int)))), (.i (IntKind.wrap IntKind.u8 (Int.fdiv x1 (16777216 : Int)))), (.i (IntKind.wrap IntKind.u8 (Int.fdiv x1 (4294967296 : Int)))), (.i (IntKind.wrap IntKind.u8 (Int.fdiv x1 (1099511627776 : Int)))), (.i (IntKind.wrap IntKind.u8 (Int.fdiv x1 (281474976710656 : Int)))), (.i (IntKind.wrap IntKind.u8 (Int.fdiv x1 (72057594037927936 : Int)))), (.i (IntKind.wrap IntKind.u8 (Int.fdiv x2 (1 : Int)))), (.i (IntKind.wrap IntKind.u8 (Int.fdiv x2 (256 : Int)))), (.i (IntKind.wrap IntKind.u8 (Int.fdiv x2 (65536 : Int)))), (.i (IntKind.wrap IntKind.u8 (Int.fdiv x2 (16777216 : Int)))), (.i (IntKind.wrap IntKind.u8 (Int.fdiv x2 (4294967296 : Int)))), (.i (IntKind.wrap IntKind.u8 (Int.fdiv x2 (1099511627776 : Int)))), (.i (IntKind.wrap IntKind.u8 (Int.fdiv x2 (281474976710656 : Int)))), (.i (IntKind.wrap IntKind.u8 (Int.fdiv x2 (72057594037927936 : Int)))), (.i (IntKind.wrap IntKind.u8 (Int.fdiv x3 (1 : Int)))), (.i (IntKind.wrap IntKind.u8 (Int.fdiv x3 (256 : Int)))), (.i (IntKind.wrap IntKind.u8 (Int.fdiv x3 (65536 : Int)))), (.i (IntKind.wrap IntKind.u8 (Int.fdiv x3 (16777216 : Int)))), (.i (IntKind.wrap IntKind.u8 (Int.fdiv x3 (4294967296 : Int)))), (.i (IntKind.wrap IntKind.u8 (Int.fdiv x3 (1099511627776 : Int)))), (.i (IntKind.wrap IntKind.u8 (Int.fdiv x3 (281474976710656 : Int)))), (.i (IntKind.wrap IntKind.u8 (Int.fdiv x3 (72057594037927936 : Int)))), (.i (IntKind.wrap IntKind.u8 (Int.fdiv x4 (1 : Int)))), (.i (IntKind.wrap IntKind.u8 (Int.fdiv x4 (256 : Int)))), (.i (IntKind.wrap IntKind.u8 (Int.fdiv x4 (65536 : Int)))), (.i (IntKind.wrap IntKind.u8 (Int.fdiv x4 (16777216 : Int)))), (.i (IntKind.wrap IntKind.u8 (Int.fdiv x4 (4294967296 : Int)))), (.i (IntKind.wrap IntKind.u8 (Int.fdiv x4 (1099511627776 : Int)))), (.i (IntKind.wrap IntKind.u8 (Int.fdiv x4 (281474976710656 : Int)))), (.i (IntKind.wrap IntKind.u8 (Int.fdiv x4 (72057594037927936 : Int)))), (.i (IntKind.wrap IntKind.u8 (Int.fdiv x5 (1 : Int)))), (.i (IntKind.wrap IntKind.u8 (Int.fdiv x5 (256 : Int)))), (.i (IntKind.wrap IntKind.u8 (Int.fdiv x5 (65536 : Int)))), (.i (IntKind.wrap IntKind.u8 (Int.fdiv x5 (16777216 : Int)))), (.i (IntKind.wrap IntKind.u8 (Int.fdiv x5 (4294967296 : Int)))), (.i (IntKind.wrap IntKind.u8 (Int.fdiv x5 (1099511627776 : Int)))), (.i (IntKind.wrap IntKind.u8 (Int.fdiv x5 (281474976710656 : Int)))), (.i (IntKind.wrap IntKind.u8 (Int.fdiv x5 (72057594037927936 : Int)))), (.i (IntKind.wrap IntKind.u8 (Int.fdiv x6 (1 : Int)))), (.i (IntKind.wrap IntKind.u8 (Int.fdiv x6 (256 : Int)))), (.i (IntKind.wrap IntKind.u8 (Int.fdiv x6 (65536 : Int)))), (.i (IntKind.wrap IntKind.u8 (Int.fdiv x6 (16777216 : Int)))), (.i (IntKind.wrap IntKind.u8 (Int.fdiv x6 (4294967296 : Int)))), (.i (IntKind.wrap IntKind.u8 (Int.fdiv x6 (1099511627776 : Int)))), (.i (IntKind.wrap IntKind.u8 (Int.fdiv x6 (281474976710656 : Int)))), (.i (IntKind.wrap IntKind.u8 (Int.fdiv x6 (72057594037927936 : Int)))), (.i (IntKind.wrap IntKind.u8 (Int.fdiv x7 (1 : Int)))), (.i (IntKind.wrap IntKind.u8 (Int.fdiv x7 (256 : Int)))), (.i (IntKind.wrap IntKind.u8 (Int.fdiv x7 (65536 : Int)))), (.i (IntKind.wrap IntKind.u8 (Int.fdiv x7 (16777216 : Int)))), (.i (IntKind.wrap IntKind.u8 (Int.fdiv x7 (4294967296 : Int)))), (.i (IntKind.wrap IntKind.u8 (Int.fdiv x7 (1099511627776 : Int)))), (.i (IntKind.wrap IntKind.u8 (Int.fdiv x7 (281474976710656 : Int)))), (.i (IntKind.wrap IntKind.u8 (Int.fdiv x7 (72057594037927936 : Int))))]
def y_refBytes : Nat → Option Nat := syOf3 [] [] []
def TL_refBytes (l : List At) : Tr (List At) := T_refBytes (aI l 0) (aI l 1) (aI l 2) (aI l 3) (aI l 4) (aI l 5) (aI l 6) (aI l 7)
theorem e_refBytes (l : List At) : (call Try.prog Γ_wordBytes y_refBytes noLoops 100 Try.f48 (mkV ish_refBytes l) (mkH ish_refBytes l)).bind (leafO 0 osh_refBytes) = TL_refBytes l := by kernel_rfl
def r_refBytes_0 (x0 : Int) : Int :=
  IntKind.wrap IntKind.u8 (Int.fdiv x0 (1 : Int))
def r_refBytes_1 (x0 : Int) : Int :=
  IntKind.wrap IntKind.u8 (Int.fdiv x0 (256 : Int))
def r_refBytes_2 (x0 : Int) : Int :=
  IntKind.wrap IntKind.u8 (Int.fdiv x0 (65536 : Int))
def r_refBytes_3 (x0 : Int) : Int :=
  IntKind.wrap IntKind.u8 (Int.fdiv x0 (16777216 : Int))
def r_refBytes_4 (x0 : Int) : Int :=
  IntKind.wrap IntKind.u8 (Int.fdiv x0 (4294967296 : Int))
def r_refBytes_5 (x0 : Int) : Int :=
  IntKind.wrap IntKind.u8 (Int.fdiv x0 (1099511627776 : Int))
def r_refBytes_6 (x0 : Int) : Int :=
  IntKind.wrap IntKind.u8 (Int.fdiv x0 (281474976710656 : Int))
def r_refBytes_7 (x0 : Int) : Int :=
  IntKind.wrap IntKind.u8 (Int.fdiv x0 (72057594037927936 : Int))
def r_refBytes_8 (x1 : Int) : Int :=
  IntKind.wrap IntKind.u8 (Int.fdiv x1 (1 : Int))
def r_refBytes_9 (x1 : Int) : Int :=
  IntKind.wrap IntKind.u8 (Int.fdiv x1 (256 : Int))
def r_refBytes_10 (x1 : Int) : Int :=
  IntKind.wrap IntKind.u8 (Int.fdiv x1 (65536 : Int))
def r_refBytes_11 (x1 : Int) : Int :=
  IntKind.wrap IntKind.u8 (Int.fdiv x1 (16777216 : Int))
def r_refBytes_12 (x1 : Int) : Int :=
  IntKind.wrap IntKind.u8 (Int.fdiv x1 (4294967296 : Int))
def r_refBytes_13 (x1 : Int) : Int :=
  IntKind.wrap IntKind.u8 (Int.fdiv x1 (1099511627776 : Int))
def r_refBytes_14 (x1 : Int) : Int :=
  IntKind.wrap IntKind.u8 (Int.fdiv x1 (281474976710656 : Int))
def r_refBytes_15 (x1 : Int) : Int :=
  IntKind.wrap IntKind.u8 (Int.fdiv x1 (72057594037927936 : Int))
def r_refBytes_16 (x2 : Int) : Int :=
  IntKind.wrap IntKind.u8 (Int.fdiv x2 (1 : Int))
def r_refBytes_17 (x2 : Int) : Int :=
  IntKind.wrap IntKind.u8 (Int.fdiv x2 (256 : Int))
def r_refBytes_18 (x2 : Int) : Int :=
  IntKind.wrap IntKind.u8 (Int.fdiv x2 (65536 : Int))
def r_refBytes_19 (x2 : Int) : Int :=
  IntKind.wrap IntKind.u8 (Int.fdiv x2 (16777216 : Int))
def r_refBytes_20 (x2 : Int) : Int :=
  IntKind.wrap IntKind.u8 (Int.fdiv x2 (4294967296 : Int))
def r_refBytes_21 (x2 : Int) : Int :=
  IntKind.wrap IntKind.u8 (Int.fdiv x2 (1099511627776 : Int))
def r_refBytes_22 (x2 : Int) : Int :=
  IntKind.wrap IntKind.u8 (Int.fdiv x2 (281474976710656 : Int))
def r_refBytes_23 (x2 : Int) : Int :=
  IntKind.wrap IntKind.u8 (Int.fdiv x2 (72057594037927936 : Int))
def r_refBytes_24 (x3 : Int) : Int :=
  IntKind.wrap IntKind.u8 (Int.fdiv x3 (1 : Int))
def r_refBytes_25 (x3 : Int) : Int :=
  IntKind.wrap IntKind.u8 (Int.fdiv x3 (256 : Int))
def r_refBytes_26 (x3 : Int) : Int :=
  IntKind.wrap IntKind.u8 (Int.fdiv x3 (65536 : Int))
def r_refBytes_27 (x3 : Int) : Int :=
  IntKind.wrap IntKind.u8 (Int.fdiv x3 (16777216 : Int))
def r_refBytes_28 (x3 : Int) : Int :=
  IntKind.wrap IntKind.u8 (Int.fdiv x3 (4294967296 : Int))
def r_refBytes_29 (x3 : Int) : Int :=
  IntKind.wrap IntKind.u8 (Int.fdiv x3 (1099511627776 : Int))
def r_refBytes_30 (x3 : Int) : Int :=
  IntKind.wrap IntKind.u8 (Int.fdiv x3 (281474976710656 : Int))
def r_refBytes_31 (x3 : Int) : Int :=
  IntKind.wrap IntKind.u8 (Int.fdiv x3 (72057594037927936 : Int))
def r_refBytes_32 (x4 : Int) : Int :=
  IntKind.wrap IntKind.u8 (Int.fdiv x4 (1 : Int))
def r_refBytes_33 (x4 : Int) : Int :=
  IntKind.wrap IntKind.u8 (Int.fdiv x4 (256 : Int))
def r_refBytes_34 (x4 : Int) : Int :=
  IntKind.wrap IntKind.u8 (Int.fdiv x4 (65536 : Int))
def r_refBytes_35 (x4 : Int) : Int :=
  IntKind.wrap IntKind.u8 (Int.fdiv x4 (16777216 : Int))
def r_refBytes_36 (x4 : Int) : Int :=
  IntKind.wrap IntKind.u8 (Int.fdiv x4 (4294967296 : Int))
def r_refBytes_37 (x4 : Int) : Int :=
  IntKind.wrap IntKind.u8 (Int.fdiv x4 (1099511627776 : Int))
def r_refBytes_38 (x4 : Int) : Int :=
  IntKind.wrap IntKind.u8 (Int.fdiv x4 (281474976710656 : Int))
def r_refBytes_39 (x4 : Int) : Int :=
  IntKind.wrap IntKind.u8 (Int.fdiv x4 (72057594037927936 : Int))
def r_refBytes_40 (x5 : Int) : Int :=
  IntKind.wrap IntKind.u8 (Int.fdiv x5 (1 : Int))
def r_refBytes_41 (x5 : Int) : Int :=
  IntKind.wrap IntKind.u8 (Int.fdiv x5 (256 : Int))
def r_refBytes_42 (x5 : Int) : Int :=
  IntKind.wrap IntKind.u8 (Int.fdiv x5 (65536 : Int))
def r_refBytes_43 (x5 : Int) : Int :=
  IntKind.wrap IntKind.u8 (Int.fdiv x5 (16777216 : Int))
def r_refBytes_44 (x5 : Int) : Int :=
  IntKind.wrap IntKind.u8 (Int.fdiv x5 (4294967296 : Int))
def r_refBytes_45 (x5 : Int) : Int :=
  IntKind.wrap IntKind.u8 (Int.fdiv x5 (1099511627776 : Int))
def r_refBytes_46 (x5 : Int) : Int :=
  IntKind.wrap IntKind.u8 (Int.fdiv x5 (281474976710656 : Int))
def r_refBytes_47 (x5 : Int) : Int :=
  IntKind.wrap IntKind.u8 (Int.fdiv x5 (72057594037927936 : Int))
def r_refBytes_48 (x6 : Int) : Int :=
  IntKind.wrap IntKind.u8 (Int.fdiv x6 (1 : Int))
def r_refBytes_49 (x6 : Int) : Int :=
  IntKind.wrap IntKind.u8 (Int.fdiv x6 (256 : Int))
def r_refBytes_50 (x6 : Int) : Int :=
  IntKind.wrap IntKind.u8 (Int.fdiv x6 (65536 : Int))
def r_refBytes_51 (x6 : Int) : Int :=
  IntKind.wrap IntKind.u8 (Int.fdiv x6 (16777216 : Int))
def r_refBytes_52 (x6 : Int) : Int :=
  IntKind.wrap IntKind.u8 (Int.fdiv x6 (4294967296 : Int))
def r_refBytes_53 (x6 : Int) : Int :=
  IntKind.wrap IntKind.u8 (Int.fdiv x6 (1099511627776 : Int))
def r_refBytes_54 (x6 : Int) : Int :=
  IntKind.wrap IntKind.u8 (Int.fdiv x6 (281474976710656 : Int))
def r_refBytes_55 (x6 : Int) : Int :=
  IntKind.wrap IntKind.u8 (Int.fdiv x6 (72057594037927936 : Int))
def r_refBytes_56 (x7 : Int) : Int :=
  IntKind.wrap IntKind.u8 (Int.fdiv x7 (1 : Int))
def r_refBytes_57 (x7 : Int) : Int :=
  IntKind.wrap IntKind.u8 (Int.fdiv x7 (256 : Int))
def r_refBytes_58 (x7 : Int) : Int :=
  IntKind.wrap IntKind.u8 (Int.fdiv x7 (65536 : Int))
def r_refBytes_59 (x7 : Int) : Int :=
  IntKind.wrap IntKind.u8 (Int.fdiv x7 (16777216 : Int))
def r_refBytes_60 (x7 : Int) : Int :=
  IntKind.wrap IntKind.u8 (Int.fdiv x7 (4294967296 : Int))
def r_refBytes_61 (x7 : Int) : Int :=
  IntKind.wrap IntKind.u8 (Int.fdiv x7 (1099511627776 : Int))
def r_refBytes_62 (x7 : Int) : Int :=
  IntKind.wrap IntKind.u8 (Int.fdiv x7 (281474976710656 : Int))
def r_refBytes_63 (x7 : Int) : Int :=
  IntKind.wrap IntKind.u8 (Int.fdiv x7 (72057594037927936 : Int))
def F_refBytes : List At → Tr (List At) := fun l => .ok [.i (r_refBytes_0 (aI l 0)), .i (r_refBytes_1 (aI l 0)), .i (r_refBytes_2 (aI l 0)), .i (r_refBytes_3 (aI l 0)), .i (r_refBytes_4 (aI l 0)), .i (r_refBytes_5 (aI l 0)), .i (r_refBytes_6 (aI l 0)), .i (r_refBytes_7 (aI l 0)), .i (r_refBytes_8 (aI l 1)), .i (r_refBytes_9 (aI l 1)), .i (r_refBytes_10 (aI l 1)), .i (r_refBytes_11 (aI l 1)), .i (r_refBytes_12 (aI l 1)), .i (r_refBytes_13 (aI l 1)), .i (r_refBytes_14 (aI l 1)), .i (r_refBytes_15 (aI l 1)), .i (r_refBytes_16 (aI l 2)), .i (r_refBytes_17 (aI l 2)), .i (r_refBytes_18 (aI l 2)), .i (r_refBytes_19 (aI l 2)), .i (r_refBytes_20 (aI l 2)), .i (r_refBytes_21 (aI l 2)), .i (r_refBytes_22 (aI l 2)), .i (r_refBytes_23 (aI l 2)), .i (r_refBytes_24 (aI l 3)), .i (r_refBytes_25 (aI l 3)), .i (r_refBytes_26 (aI l 3)), .i (r_refBytes_27 (aI l 3)), .i (r_refBytes_28 (aI l 3)), .i (r_refBytes_29 (aI l 3)), .i (r_refBytes_30 (aI l 3)), .i (r_refBytes_31 (aI l 3)), .i (r_refBytes_32 (aI l 4)), .i (r_refBytes_33 (aI l 4)), .i (r_refBytes_34 (aI l 4)), .i (r_refBytes_35 (aI l 4)), .i (r_refBytes_36 (aI l 4)), .i (r_refBytes_37 (aI l 4)), .i (r_refBytes_38 (aI l 4)), .i (r_refBytes_39 (aI l 4)), .i (r_refBytes_40 (aI l 5)), .i (r_refBytes_41 (aI l 5)), .i (r_refBytes_42 (aI l 5)), .i (r_refBytes_43 (aI l 5)), .i (r_refBytes_44 (aI l 5)), .i (r_refBytes_45 (aI l 5)), .i (r_refBytes_46 (aI l 5)), .i (r_refBytes_47 (aI l 5)), .i (r_refBytes_48 (aI l 6)), .i (r_refBytes_49 (aI l 6)), .i (r_refBytes_50 (aI l 6)), .i (r_refBytes_51 (aI l 6)), .i (r_refBytes_52 (aI l 6)), .i (r_refBytes_53 (aI l 6)), .i (r_refBytes_54 (aI l 6)), .i (r_refBytes_55 (aI l 6)), .i (r_refBytes_56 (aI l 7)), .i (r_refBytes_57 (aI l 7)), .i (r_refBytes_58 (aI l 7)), .i (r_refBytes_59 (aI l 7)), .i (r_refBytes_60 (aI l 7)), .i (r_refBytes_61 (aI l 7)), .i (r_refBytes_62 (aI l 7)), .i (r_refBytes_63 (aI l 7))]
theorem s_refBytes : SpecF Try.prog 48 (.pure (locP ish_refBytes osh_refBytes F_refBytes)) :=
  spec_locP (sy := y_refBytes) (fuel := 100) (Lp := noLoops) o_wordBytes mixed ⟨Try.func48, by kernel_rfl, by kernel_rfl⟩ ish_refBytes osh_refBytes rfl (noLoops_ok _) (hT_merged [.i, .i, .i, .i, .i, .i, .i, .i, .i, .i, .i, .i, .i, .i, .i, .i, .i, .i, .i, .i, .i, .i, .i, .i, .i, .i, .i, .i, .i, .i, .i, .i, .i, .i, .i, .i, .i, .i, .i, .i, .i, .i, .i, .i, .i, .i, .i, .i, .i, .i, .i, .i, .i, .i, .i, .i, .i, .i, .i, .i, .i, .i, .i, .i] e_refBytes (fun l => by kernel_rfl) (fun l => by kernel_rfl))
def Γ_refBytes : Specs := upd Γ_wordBytes 48 (.pure (locP ish_refBytes osh_refBytes F_refBytes))
theorem o_refBytes : SpecOK Try.prog Γ_refBytes := SpecOK.upd o_wordBytes s_refBytes

end Go.Proofs.Ytgmhggipaopoiaa.G
end

/-
  What functions of the seat compute, printed by a program from the explorer.
-/
section
namespace Go.Proofs.Ytgmhggipaopoiaa.G
open Go Go.AM Go.Proofs
/-! ### the loop at 7 of crcMore -/

def lsh_crcMore_7 : FSh := ⟨[.any, .any, .any, .any, .any, .v false [.k (.n .u32)], .any, .any, .any, .any, .v false [.sq 0 1], .v false [.k (.n .i64)], .v false [.k (.n .i64)], .any, .any, .any, .any, .any, .any, .any, .v false [.k (.n .i64)], .any, .any, .any, .any, .any, .any, .any, .any, .any, .any, .any, .any], [.rows [.n .u8] false]⟩
def xsh_crcMore_7_0 : FSh := ⟨[.any, .any, .any, .any, .any, .v false [.k (.n .u32)], .any, .any, .any, .any, .v false [.sq 0 1], .v false [.k (.n .i64)], .v false [.k (.n .i64)], .any, .any, .any, .any, .any, .any, .any, .any, .any, .any, .any, .any, .any, .any, .any, .any, .any, .any, .any, .any], [.rows [.n .u8] false]⟩
def xs_crcMore_7 : Exs := fun e => match e with
  | .normal => some lsh_crcMore_7
  | .exit n => (match Nat.beq n 2 with | true => some xsh_crcMore_7_0 | false => none)
  | .ret => none
def B_crcMore_7 (x0 : Int) (x1 : Nat) (x2 : Nat) (x3 : Int) (x4 : Int) (x5 : Int) (n6 : Nat) (g6 : Nat → Nat → Int) : Tr (Ex × List At) :=
 .br 21 (decide (x5 < (8 : Int)))
 (.ok (.normal, [(.i (bits BinOp.xor IntKind.u32 (Int.fdiv x0 (2 : Int)) (bits BinOp.and IntKind.u32 (3988292384 : Int) (IntKind.wrap IntKind.u32 ((0 : Int) - bits BinOp.and IntKind.u32 x0 (1 : Int)))))), (.n (x1)), (.n (x2)), (.i (x3)), (.i (x4)), (.i (IntKind.wrap IntKind.i64 (x5 + (1 : Int)))), (.r (n6) (g6))]))
 (.ok (.exit 2, [(.i (x0)), (.n (x1)), (.n (x2)), (.i (x3)), (.i (x4)), (.r (n6) (g6))]))
def y_crcMore_7 : Nat → Option Nat := syOf3 [21] [] []
def BL_crcMore_7 (l : List At) : Tr (Ex × List At) := B_crcMore_7 (aI l 0) (aN l 1) (aN l 2) (aI l 3) (aI l 4) (aI l 5) (aRn l 6) (aRg l 6)
theorem eB_crcMore_7 (l : List At) : (exec Try.prog Γ_refBytes y_crcMore_7 noLoops 100 (loopAt Try.f56 7) ⟨mkV lsh_crcMore_7 l, mkH lsh_crcMore_7 l⟩).bind (leafL 1 xs_crcMore_7) = BL_crcMore_7 l := by kernel_rfl
/- by hand: O_crcMore_7 (x0 : Int) (x1 : Nat) (x2 : Nat) (x3 : Int) (x4 : Int) (x5 : Int) (n6 : Nat) (g6 : Nat → Nat → Int) : Tr (Ex × List At); OL_crcMore_7 (l) := O_crcMore_7 (aI l 0) (aN l 1) (aN l 2) (aI l 3) (aI l 4) (aI l 5) (aRn l 6) (aRg l 6); μ_crcMore_7 : List At → Nat; rd_crcMore_7 : ∀ l r, (OL_crcMore_7 l).val = some r → RoundA BL_crcMore_7 OL_crcMore_7 μ_crcMore_7 l r -/

/-! ### the loop at 6 of refReg -/

def lsh_refReg_6 : FSh := ⟨[.v false [.k (.n .u32)], .v false [.sq 0 1], .any, .any, .any, .v false [.k (.n .i64)], .v false [.k (.n .i64)], .any, .any, .any, .any, .any, .any, .any, .any, .any, .any, .any, .any, .any, .any, .any, .any, .any, .any, .any, .any, .any, .any, .any, .any, .any, .any, .any], [.rows [.n .u8] false]⟩
def xsh_refReg_6_0 : FSh := ⟨[.v false [.k (.n .u32)], .v false [.sq 0 1], .any, .any, .any, .v false [.k (.n .i64)], .any, .any, .any, .any, .any, .any, .any, .any, .any, .any, .any, .any, .any, .any, .any, .any, .any, .any, .any, .any, .any, .any, .any, .any, .any, .any, .any, .any], [.rows [.n .u8] false]⟩
def xs_refReg_6 : Exs := fun e => match e with
  | .normal => some lsh_refReg_6
  | .exit n => (match Nat.beq n 2 with | true => some xsh_refReg_6_0 | false => none)
  | .ret => none
def B_refReg_6 (x0 : Int) (x1 : Nat) (x2 : Nat) (x3 : Int) (x4 : Int) (n5 : Nat) (g5 : Nat → Nat → Int) : Tr (Ex × List At) :=
 .br 22 (decide (x4 < (8 : Int)))
 (.br 30 (bits BinOp.and IntKind.u32 x0 (1 : Int) == (1 : Int))
 (.ok (.normal, [(.i (bits BinOp.xor IntKind.u32 (Int.fdiv x0 (2 : Int)) (3988292384 : Int))), (.n (x1)), (.n (x2)), (.i (x3)), (.i (IntKind.wrap IntKind.i64 (x4 + (1 : Int)))), (.r (n5) (g5))]))
 (.ok (.normal, [(.i (Int.fdiv x0 (2 : Int))), (.n (x1)), (.n (x2)), (.i (x3)), (.i (IntKind.wrap IntKind.i64 (x4 + (1 : Int)))), (.r (n5) (g5))])))
 (.ok (.exit 2, [(.i (x0)), (.n (x1)), (.n (x2)), (.i (x3)), (.r (n5) (g5))]))
def y_refReg_6 : Nat → Option Nat := syOf3 [22, 30] [] []
def BL_refReg_6 (l : List At) : Tr (Ex × List At) := B_refReg_6 (aI l 0) (aN l 1) (aN l 2) (aI l 3) (aI l 4) (aRn l 5) (aRg l 5)
theorem eB_refReg_6 (l : List At) : (exec Try.prog Γ_refBytes y_refReg_6 noLoops 100 (loopAt Try.f57 6) ⟨mkV lsh_refReg_6 l, mkH lsh_refReg_6 l⟩).bind (leafL 1 xs_refReg_6) = BL_refReg_6 l := by kernel_rfl
/- by hand: O_refReg_6 (x0 : Int) (x1 : Nat) (x2 : Nat) (x3 : Int) (x4 : Int) (n5 : Nat) (g5 : Nat → Nat → Int) : Tr (Ex × List At); OL_refReg_6 (l) := O_refReg_6 (aI l 0) (aN l 1) (aN l 2) (aI l 3) (aI l 4) (aRn l 5) (aRg l 5); μ_refReg_6 : List At → Nat; rd_refReg_6 : ∀ l r, (OL_refReg_6 l).val = some r → RoundA BL_refReg_6 OL_refReg_6 μ_refReg_6 l r -/

end Go.Proofs.Ytgmhggipaopoiaa.G
end

/-
  The eight steps of a byte: what the inner loops come to.
-/
section
namespace Go.Proofs.Ytgmhggipaopoiaa.G
open Go Go.AM Go.Proofs

def O_crcMore_7 (x0 : Int) (x1 : Nat) (x2 : Nat) (x3 : Int) (x4 : Int) (x5 : Int) (n6 : Nat) (g6 : Nat → Nat → Int) : Tr (Ex × List At) :=
  .br 0 (decide (0 ≤ x5) && decide (x5 ≤ 8)) (.ok (.exit 2, [.i (iter crcStep (8 - x5).toNat x0), .n x1, .n x2, .i x3, .i x4, .r n6 g6])) .no
def OL_crcMore_7 (l : List At) : Tr (Ex × List At) := O_crcMore_7 (aI l 0) (aN l 1) (aN l 2) (aI l 3) (aI l 4) (aI l 5) (aRn l 6) (aRg l 6)
def μ_crcMore_7 (l : List At) : Nat := (8 - aI l 5).toNat

theorem rd_crcMore_7 : ∀ l r, (OL_crcMore_7 l).val = some r → RoundA BL_crcMore_7 OL_crcMore_7 μ_crcMore_7 l r := by
  intro l r h
  obtain ⟨hc, h⟩ := guard_val h
  have := val_ok h
  subst this
  simp only [Bool.and_eq_true, decide_eq_true_eq] at hc
  by_cases hk : aI l 5 < 8
  · refine .inl ⟨_, [.i (crcStep (aI l 0)), .n (aN l 1), .n (aN l 2), .i (aI l 3), .i (aI l 4), .i (aI l 5 + 1), .r (aRn l 6) (aRg l 6)], (br_t (by simpa using hk)).trans rfl, ?_, ?_, ?_⟩
    · refine atsEq_cons (AtEq.refl _) (atsEq_cons (AtEq.refl _) (atsEq_cons (AtEq.refl _) (atsEq_cons (AtEq.refl _) (atsEq_cons (AtEq.refl _) (atsEq_cons (atEq_i ?_) (atsEq_cons (AtEq.refl _) atsEq_nil))))))
      exact wrap_i64 (by omega) (by omega)
    · show (8 - (aI l 5 + 1)).toNat < (8 - aI l 5).toNat
      omega
    · refine (br_t (g := 0) ?_).trans ?_
      · show (decide (0 ≤ aI l 5 + 1) && decide (aI l 5 + 1 ≤ 8)) = true
        simp only [Bool.and_eq_true, decide_eq_true_eq]; omega
      · show some _ = some _
        have e : (8 - aI l 5).toNat = (8 - (aI l 5 + 1)).toNat + 1 := by omega
        rw [e]
        rfl
  · refine .inr ⟨.exit 2, _, by simp, br_f (by simpa using hk), rfl, ?_⟩
    have e : (8 - aI l 5).toNat = 0 := by omega
    rw [e]
    exact AtsEq.refl _

def O_refReg_6 (x0 : Int) (x1 : Nat) (x2 : Nat) (x3 : Int) (x4 : Int) (n5 : Nat) (g5 : Nat → Nat → Int) : Tr (Ex × List At) :=
  .br 0 (decide (0 ≤ x4) && decide (x4 ≤ 8)) (.ok (.exit 2, [.i (iter refStep (8 - x4).toNat x0), .n x1, .n x2, .i x3, .r n5 g5])) .no
def OL_refReg_6 (l : List At) : Tr (Ex × List At) := O_refReg_6 (aI l 0) (aN l 1) (aN l 2) (aI l 3) (aI l 4) (aRn l 5) (aRg l 5)
def μ_refReg_6 (l : List At) : Nat := (8 - aI l 4).toNat

theorem rd_refReg_6 : ∀ l r, (OL_refReg_6 l).val = some r → RoundA BL_refReg_6 OL_refReg_6 μ_refReg_6 l r := by
  intro l r h
  obtain ⟨hc, h⟩ := guard_val h
  have := val_ok h
  subst this
  simp only [Bool.and_eq_true, decide_eq_true_eq] at hc
  by_cases hk : aI l 4 < 8
  · have hw : IntKind.i64.wrap (aI l 4 + 1) = aI l 4 + 1 := wrap_i64 (by omega) (by omega)
    refine .inl ⟨[.i (refStep (aI l 0)), .n (aN l 1), .n (aN l 2), .i (aI l 3), .i (IntKind.i64.wrap (aI l 4 + 1)), .r (aRn l 5) (aRg l 5)], [.i (refStep (aI l 0)), .n (aN l 1), .n (aN l 2), .i (aI l 3), .i (aI l 4 + 1), .r (aRn l 5) (aRg l 5)], ?_, ?_, ?_, ?_⟩
    rotate_left
    · refine atsEq_cons (AtEq.refl _) (atsEq_cons (AtEq.refl _) (atsEq_cons (AtEq.refl _) (atsEq_cons (AtEq.refl _) (atsEq_cons (atEq_i hw) (atsEq_cons (AtEq.refl _) atsEq_nil)))))
    · show (8 - (aI l 4 + 1)).toNat < (8 - aI l 4).toNat
      omega
    · refine (br_t (g := 0) ?_).trans ?_
      · show (decide (0 ≤ aI l 4 + 1) && decide (aI l 4 + 1 ≤ 8)) = true
        simp only [Bool.and_eq_true, decide_eq_true_eq]; omega
      · show some _ = some _
        have e : (8 - aI l 4).toNat = (8 - (aI l 4 + 1)).toNat + 1 := by omega
        rw [e]
        rfl
    · refine (br_t (by simpa using hk)).trans ?_
      unfold refStep
      cases hb : bits BinOp.and IntKind.u32 (aI l 0) 1 == 1
      · rfl
      · rfl
  · refine .inr ⟨.exit 2, _, by simp, br_f (by simpa using hk), rfl, ?_⟩
    have e : (8 - aI l 4).toNat = 0 := by omega
    rw [e]
    exact AtsEq.refl _
end Go.Proofs.Ytgmhggipaopoiaa.G
end

/-
  What functions of the seat compute, printed by a program from the explorer.
-/
section
namespace Go.Proofs.Ytgmhggipaopoiaa.G
open Go Go.AM Go.Proofs
theorem f_crcMore_7 : LoopF Try.prog 1 (loopAt Try.f56 7) (loopFn 1 lsh_crcMore_7 xs_crcMore_7 OL_crcMore_7) :=
  loop_loc (sy := y_crcMore_7) (fuel := 100) (Lp := noLoops) o_refBytes mixed (loopsOK_at (noLoops_ok _) 7) rfl eB_crcMore_7 rd_crcMore_7
def Lp_crcMore_7 : Loops := Loops.set noLoops 7 (loopFn 1 lsh_crcMore_7 xs_crcMore_7 OL_crcMore_7)
theorem lk_crcMore_7 : LoopsFn Try.prog 1 Lp_crcMore_7 Try.f56 := loopsFn_set (noLoops_ok _) (by kernel_rfl) f_crcMore_7

theorem f_refReg_6 : LoopF Try.prog 1 (loopAt Try.f57 6) (loopFn 1 lsh_refReg_6 xs_refReg_6 OL_refReg_6) :=
  loop_loc (sy := y_refReg_6) (fuel := 100) (Lp := noLoops) o_refBytes mixed (loopsOK_at (noLoops_ok _) 6) rfl eB_refReg_6 rd_refReg_6
def Lp_refReg_6 : Loops := Loops.set noLoops 6 (loopFn 1 lsh_refReg_6 xs_refReg_6 OL_refReg_6)
theorem lk_refReg_6 : LoopsFn Try.prog 1 Lp_refReg_6 Try.f57 := loopsFn_set (noLoops_ok _) (by kernel_rfl) f_refReg_6

/-! ### the loop at 3 of crcMore -/

def lsh_crcMore_3 : FSh := ⟨[.any, .any, .any, .any, .any, .v false [.k (.n .u32)], .any, .any, .any, .any, .v false [.sq 0 1], .v false [.k (.n .i64)], .v false [.k (.n .i64)], .any, .any, .any, .any, .any, .any, .any, .any, .any, .any, .any, .any, .any, .any, .any, .any, .any, .any, .any, .any], [.rows [.n .u8] false]⟩
def xsh_crcMore_3_0 : FSh := ⟨[.any, .any, .any, .any, .any, .v false [.k (.n .u32)], .any, .any, .any, .any, .any, .any, .any, .any, .any, .any, .any, .any, .any, .any, .any, .any, .any, .any, .any, .any, .any, .any, .any, .any, .any, .any, .any], [.no]⟩
def xs_crcMore_3 : Exs := fun e => match e with
  | .normal => some lsh_crcMore_3
  | .exit n => (match Nat.beq n 0 with | true => some xsh_crcMore_3_0 | false => none)
  | .ret => none
def B_crcMore_3 (x0 : Int) (x1 : Nat) (x2 : Nat) (x3 : Int) (x4 : Int) (n5 : Nat) (g5 : Nat → Nat → Int) : Tr (Ex × List At) :=
 .br 13 (decide (x4 < x3))
 (.br 14 (within x4 x2)
 (.br 0 (decide ((0 : Int) ≤ (0 : Int)) && decide ((0 : Int) ≤ (8 : Int)))
 (.ok (.normal, [(.i (iter crcStep (8 : Nat) (bits BinOp.xor IntKind.u32 x0 (IntKind.wrap IntKind.u32 (g5 (x1 + Int.toNat x4) (0 : Nat)))))), (.n (x1)), (.n (x2)), (.i (x3)), (.i (IntKind.wrap IntKind.i64 (x4 + (1 : Int)))), (.r (n5) (g5))]))
 (.no))
 (.no))
 (.ok (.exit 0, [(.i (x0))]))
def y_crcMore_3 : Nat → Option Nat := syOf3 [13, 14] [] []
def BL_crcMore_3 (l : List At) : Tr (Ex × List At) := B_crcMore_3 (aI l 0) (aN l 1) (aN l 2) (aI l 3) (aI l 4) (aRn l 5) (aRg l 5)
theorem eB_crcMore_3 (l : List At) : (exec Try.prog Γ_refBytes y_crcMore_3 Lp_crcMore_7 100 (loopAt Try.f56 3) ⟨mkV lsh_crcMore_3 l, mkH lsh_crcMore_3 l⟩).bind (leafL 1 xs_crcMore_3) = BL_crcMore_3 l := by kernel_rfl
/- by hand: O_crcMore_3 (x0 : Int) (x1 : Nat) (x2 : Nat) (x3 : Int) (x4 : Int) (n5 : Nat) (g5 : Nat → Nat → Int) : Tr (Ex × List At); OL_crcMore_3 (l) := O_crcMore_3 (aI l 0) (aN l 1) (aN l 2) (aI l 3) (aI l 4) (aRn l 5) (aRg l 5); μ_crcMore_3 : List At → Nat; rd_crcMore_3 : ∀ l r, (OL_crcMore_3 l).val = some r → RoundA BL_crcMore_3 OL_crcMore_3 μ_crcMore_3 l r -/

/-! ### the loop at 2 of refReg -/

def lsh_refReg_2 : FSh := ⟨[.v false [.k (.n .u32)], .v false [.sq 0 1], .any, .any, .any, .v false [.k (.n .i64)], .any, .any, .any, .any, .any, .any, .any, .any, .any, .any, .any, .any, .any, .any, .any, .any, .any, .any, .any, .any, .any, .any, .any, .any, .any, .any, .any, .any], [.rows [.n .u8] false]⟩
def xsh_refReg_2_0 : FSh := ⟨[.v false [.k (.n .u32)], .any, .any, .any, .any, .any, .any, .any, .any, .any, .any, .any, .any, .any, .any, .any, .any, .any, .any, .any, .any, .any, .any, .any, .any, .any, .any, .any, .any, .any, .any, .any, .any, .any], [.no]⟩
def xs_refReg_2 : Exs := fun e => match e with
  | .normal => some lsh_refReg_2
  | .exit n => (match Nat.beq n 0 with | true => some xsh_refReg_2_0 | false => none)
  | .ret => none
def B_refReg_2 (x0 : Int) (x1 : Nat) (x2 : Nat) (x3 : Int) (n4 : Nat) (g4 : Nat → Nat → Int) : Tr (Ex × List At) :=
 .br 11 (decide (x3 < (↑x2 : Int)))
 (.br 17 (within x3 x2)
 (.br 0 (decide ((0 : Int) ≤ (0 : Int)) && decide ((0 : Int) ≤ (8 : Int)))
 (.ok (.normal, [(.i (iter refStep (8 : Nat) (bits BinOp.xor IntKind.u32 x0 (IntKind.wrap IntKind.u32 (g4 (x1 + Int.toNat x3) (0 : Nat)))))), (.n (x1)), (.n (x2)), (.i (IntKind.wrap IntKind.i64 (x3 + (1 : Int)))), (.r (n4) (g4))]))
 (.no))
 (.no))
 (.ok (.exit 0, [(.i (x0))]))
def y_refReg_2 : Nat → Option Nat := syOf3 [11, 17] [] []
def BL_refReg_2 (l : List At) : Tr (Ex × List At) := B_refReg_2 (aI l 0) (aN l 1) (aN l 2) (aI l 3) (aRn l 4) (aRg l 4)
theorem eB_refReg_2 (l : List At) : (exec Try.prog Γ_refBytes y_refReg_2 Lp_refReg_6 100 (loopAt Try.f57 2) ⟨mkV lsh_refReg_2 l, mkH lsh_refReg_2 l⟩).bind (leafL 1 xs_refReg_2) = BL_refReg_2 l := by kernel_rfl
/- by hand: O_refReg_2 (x0 : Int) (x1 : Nat) (x2 : Nat) (x3 : Int) (n4 : Nat) (g4 : Nat → Nat → Int) : Tr (Ex × List At); OL_refReg_2 (l) := O_refReg_2 (aI l 0) (aN l 1) (aN l 2) (aI l 3) (aRn l 4) (aRg l 4); μ_refReg_2 : List At → Nat; rd_refReg_2 : ∀ l r, (OL_refReg_2 l).val = some r → RoundA BL_refReg_2 OL_refReg_2 μ_refReg_2 l r -/

end Go.Proofs.Ytgmhggipaopoiaa.G
end

/-
  All bytes of a row: what the outer loops come to.
-/
section
namespace Go.Proofs.Ytgmhggipaopoiaa.G
open Go Go.AM Go.Proofs

def O_crcMore_3 (x0 : Int) (x1 : Nat) (x2 : Nat) (x3 : Int) (x4 : Int) (n5 : Nat) (g5 : Nat → Nat → Int) : Tr (Ex × List At) :=
  .br 0 (decide (0 ≤ x4) && decide (x4 ≤ x3) && decide (x3 = (x2 : Int)) && decide (x3 < 9223372036854775807)) (.ok (.exit 0, [.i (crcFold crcStep (fun j => g5 j 0) (x3 - x4).toNat (x1 + x4.toNat) x0)])) .no
def OL_crcMore_3 (l : List At) : Tr (Ex × List At) := O_crcMore_3 (aI l 0) (aN l 1) (aN l 2) (aI l 3) (aI l 4) (aRn l 5) (aRg l 5)
def μ_crcMore_3 (l : List At) : Nat := (aI l 3 - aI l 4).toNat

theorem rd_crcMore_3 : ∀ l r, (OL_crcMore_3 l).val = some r → RoundA BL_crcMore_3 OL_crcMore_3 μ_crcMore_3 l r := by
  intro l r h
  obtain ⟨hc, h⟩ := guard_val h
  have := val_ok h
  subst this
  simp only [Bool.and_eq_true, decide_eq_true_eq] at hc
  obtain ⟨⟨⟨h1, h2⟩, h3⟩, h4⟩ := hc
  by_cases hk : aI l 4 < aI l 3
  · have hw : IntKind.i64.wrap (aI l 4 + 1) = aI l 4 + 1 := wrap_i64 (by omega) (by omega)
    refine .inl ⟨_, [.i (iter crcStep 8 (bits BinOp.xor IntKind.u32 (aI l 0) (IntKind.u32.wrap (aRg l 5 (aN l 1 + (aI l 4).toNat) 0)))), .n (aN l 1), .n (aN l 2), .i (aI l 3), .i (aI l 4 + 1), .r (aRn l 5) (aRg l 5)], (br_t (by simpa using hk)).trans ((br_t (by simp only [within, Bool.and_eq_true, decide_eq_true_eq]; omega)).trans (br_t rfl)), ?_, ?_, ?_⟩
    · refine atsEq_cons (AtEq.refl _) (atsEq_cons (AtEq.refl _) (atsEq_cons (AtEq.refl _) (atsEq_cons (AtEq.refl _) (atsEq_cons (atEq_i hw) (atsEq_cons (AtEq.refl _) atsEq_nil)))))
    · show (aI l 3 - (aI l 4 + 1)).toNat < (aI l 3 - aI l 4).toNat
      omega
    · refine (br_t (g := 0) ?_).trans ?_
      · show (decide (0 ≤ aI l 4 + 1) && decide (aI l 4 + 1 ≤ aI l 3) && decide (aI l 3 = (aN l 2 : Int)) && decide (aI l 3 < 9223372036854775807)) = true
        simp only [Bool.and_eq_true, decide_eq_true_eq]; omega
      · show some _ = some _
        have e : (aI l 3 - aI l 4).toNat = (aI l 3 - (aI l 4 + 1)).toNat + 1 := by omega
        have e2 : aN l 1 + (aI l 4 + 1).toNat = aN l 1 + (aI l 4).toNat + 1 := by omega
        rw [e]
        simp only [aI, aN, List.getElem?_cons_succ, List.getElem?_cons_zero] at e2 ⊢
        rw [e2]
        rfl
  · refine .inr ⟨.exit 0, _, by simp, br_f (by simpa using hk), rfl, ?_⟩
    have e : (aI l 3 - aI l 4).toNat = 0 := by omega
    rw [e]
    exact AtsEq.refl _

def O_refReg_2 (x0 : Int) (x1 : Nat) (x2 : Nat) (x3 : Int) (n4 : Nat) (g4 : Nat → Nat → Int) : Tr (Ex × List At) :=
  .br 0 (decide (0 ≤ x3) && decide (x3 ≤ (x2 : Int)) && decide ((x2 : Int) < 9223372036854775807)) (.ok (.exit 0, [.i (crcFold refStep (fun j => g4 j 0) ((x2 : Int) - x3).toNat (x1 + x3.toNat) x0)])) .no
def OL_refReg_2 (l : List At) : Tr (Ex × List At) := O_refReg_2 (aI l 0) (aN l 1) (aN l 2) (aI l 3) (aRn l 4) (aRg l 4)
def μ_refReg_2 (l : List At) : Nat := ((aN l 2 : Int) - aI l 3).toNat

theorem rd_refReg_2 : ∀ l r, (OL_refReg_2 l).val = some r → RoundA BL_refReg_2 OL_refReg_2 μ_refReg_2 l r := by
  intro l r h
  obtain ⟨hc, h⟩ := guard_val h
  have := val_ok h
  subst this
  simp only [Bool.and_eq_true, decide_eq_true_eq] at hc
  obtain ⟨⟨h1, h2⟩, h4⟩ := hc
  by_cases hk : aI l 3 < (aN l 2 : Int)
  · have hw : IntKind.i64.wrap (aI l 3 + 1) = aI l 3 + 1 := wrap_i64 (by omega) (by omega)
    refine .inl ⟨_, [.i (iter refStep 8 (bits BinOp.xor IntKind.u32 (aI l 0) (IntKind.u32.wrap (aRg l 4 (aN l 1 + (aI l 3).toNat) 0)))), .n (aN l 1), .n (aN l 2), .i (aI l 3 + 1), .r (aRn l 4) (aRg l 4)], (br_t (by simpa using hk)).trans ((br_t (by simp only [within, Bool.and_eq_true, decide_eq_true_eq]; omega)).trans (br_t rfl)), ?_, ?_, ?_⟩
    · refine atsEq_cons (AtEq.refl _) (atsEq_cons (AtEq.refl _) (atsEq_cons (AtEq.refl _) (atsEq_cons (atEq_i hw) (atsEq_cons (AtEq.refl _) atsEq_nil))))
    · show ((aN l 2 : Int) - (aI l 3 + 1)).toNat < ((aN l 2 : Int) - aI l 3).toNat
      omega
    · refine (br_t (g := 0) ?_).trans ?_
      · show (decide (0 ≤ aI l 3 + 1) && decide (aI l 3 + 1 ≤ (aN l 2 : Int)) && decide ((aN l 2 : Int) < 9223372036854775807)) = true
        simp only [Bool.and_eq_true, decide_eq_true_eq]; omega
      · show some _ = some _
        have e : ((aN l 2 : Int) - aI l 3).toNat = ((aN l 2 : Int) - (aI l 3 + 1)).toNat + 1 := by omega
        have e2 : aN l 1 + (aI l 3 + 1).toNat = aN l 1 + (aI l 3).toNat + 1 := by omega
        rw [e]
        simp only [aI, aN, List.getElem?_cons_succ, List.getElem?_cons_zero] at e2 ⊢
        rw [e2]
        rfl
  · refine .inr ⟨.exit 0, _, by simp, br_f (by simpa using hk), rfl, ?_⟩
    have e : ((aN l 2 : Int) - aI l 3).toNat = 0 := by omega
    rw [e]
    exact AtsEq.refl _
end Go.Proofs.Ytgmhggipaopoiaa.G
end

/-
  What functions of the seat compute, printed by a program from the explorer.
-/
section
namespace Go.Proofs.Ytgmhggipaopoiaa.G
open Go Go.AM Go.Proofs
theorem f_crcMore_3 : LoopF Try.prog 1 (loopAt Try.f56 3) (loopFn 1 lsh_crcMore_3 xs_crcMore_3 OL_crcMore_3) :=
  loop_loc (sy := y_crcMore_3) (fuel := 100) (Lp := Lp_crcMore_7) o_refBytes mixed (loopsOK_at lk_crcMore_7 3) rfl eB_crcMore_3 rd_crcMore_3
def Lp_crcMore_3 : Loops := Loops.set Lp_crcMore_7 3 (loopFn 1 lsh_crcMore_3 xs_crcMore_3 OL_crcMore_3)
theorem lk_crcMore_3 : LoopsFn Try.prog 1 Lp_crcMore_3 Try.f56 := loopsFn_set lk_crcMore_7 (by kernel_rfl) f_crcMore_3

theorem f_refReg_2 : LoopF Try.prog 1 (loopAt Try.f57 2) (loopFn 1 lsh_refReg_2 xs_refReg_2 OL_refReg_2) :=
  loop_loc (sy := y_refReg_2) (fuel := 100) (Lp := Lp_refReg_6) o_refBytes mixed (loopsOK_at lk_refReg_6 2) rfl eB_refReg_2 rd_refReg_2
def Lp_refReg_2 : Loops := Loops.set Lp_refReg_6 2 (loopFn 1 lsh_refReg_2 xs_refReg_2 OL_refReg_2)
theorem lk_refReg_2 : LoopsFn Try.prog 1 Lp_refReg_2 Try.f57 := loopsFn_set lk_refReg_6 (by kernel_rfl) f_refReg_2

/-! ### crcMore -/

def ish_crcMore : FSh := ⟨[.v false [.k (.n .u32)], .v false [.vw 0 1]], [.rows [.n .u8] false]⟩
def osh_crcMore : FSh := ⟨[.v false [.k (.n .u32)]], [.no]⟩
def T_crcMore (x0 : Int) (n1 : Nat) (g1 : Nat → Nat → Int) : Tr (List At) :=
 .br 0 (decide ((0 : Int) ≤ (0 : Int)) && decide ((0 : Int) ≤ (↑n1 : Int)) && decide ((↑n1 : Int) = (↑n1 : Int)) && decide ((↑n1 : Int) < (9223372036854775807 : Int)))
 (.ok [(.i (bits BinOp.xor IntKind.u32 (4294967295 : Int) (crcFold crcStep (fun (j : Nat) => g1 j (0 : Nat)) (Int.toNat ((↑n1 : Int) - (0 : Int))) (0 : Nat) (bits BinOp.xor IntKind.u32 (4294967295 : Int) x0))))])
 (.no)
def y_crcMore : Nat → Option Nat := syOf3 [] [] []
def TL_crcMore (l : List At) : Tr (List At) := T_crcMore (aI l 0) (aRn l 1) (aRg l 1)
theorem e_crcMore (l : List At) : (call Try.prog Γ_refBytes y_crcMore Lp_crcMore_3 100 Try.f56 (mkV ish_crcMore l) (mkH ish_crcMore l)).bind (leafO 1 osh_crcMore) = TL_crcMore l := by kernel_rfl
def r_crcMore_0 (x0 : Int) (n1 : Nat) (g1 : Nat → Nat → Int) : Int :=
  bif decide ((0 : Int) ≤ (0 : Int)) && decide ((0 : Int) ≤ (↑n1 : Int)) && decide ((↑n1 : Int) = (↑n1 : Int)) && decide ((↑n1 : Int) < (9223372036854775807 : Int)) then (bits BinOp.xor IntKind.u32 (4294967295 : Int) (crcFold crcStep (fun (j : Nat) => g1 j (0 : Nat)) (Int.toNat ((↑n1 : Int) - (0 : Int))) (0 : Nat) (bits BinOp.xor IntKind.u32 (4294967295 : Int) x0)))
  else 0
def ok_crcMore (x0 : Int) (n1 : Nat) (g1 : Nat → Nat → Int) : Bool :=
  bif decide ((0 : Int) ≤ (0 : Int)) && decide ((0 : Int) ≤ (↑n1 : Int)) && decide ((↑n1 : Int) = (↑n1 : Int)) && decide ((↑n1 : Int) < (9223372036854775807 : Int)) then (true)
  else false
def F_crcMore : List At → Tr (List At) := fun l => .br 0 (ok_crcMore (aI l 0) (aRn l 1) (aRg l 1)) (.ok [.i (r_crcMore_0 (aI l 0) (aRn l 1) (aRg l 1))]) .no
theorem s_crcMore : SpecF Try.prog 56 (.read (locR ish_crcMore osh_crcMore F_crcMore)) :=
  spec_read (sy := y_crcMore) (fuel := 100) (Lp := Lp_crcMore_3) o_refBytes mixed ⟨Try.func56, by kernel_rfl, by kernel_rfl⟩ ish_crcMore osh_crcMore (by kernel_rfl) lk_crcMore_3 (hT_merged [.i] e_crcMore (fun l => by kernel_rfl) (fun l => by kernel_rfl))
def Γ_crcMore : Specs := upd Γ_refBytes 56 (.read (locR ish_crcMore osh_crcMore F_crcMore))
theorem o_crcMore : SpecOK Try.prog Γ_crcMore := SpecOK.upd o_refBytes s_crcMore

/-! ### crcSum -/

def ish_crcSum : FSh := ⟨[.v false [.vw 0 1]], [.rows [.n .u8] false]⟩
def osh_crcSum : FSh := ⟨[.v false [.k (.n .u32)]], [.no]⟩
def T_crcSum (n0 : Nat) (g0 : Nat → Nat → Int) : Tr (List At) :=
 .br 0 (ok_crcMore (0 : Int) n0 fun (j cc : Nat) => g0 ((0 : Nat) + j) cc)
 (.ok [(.i (r_crcMore_0 (0 : Int) n0 fun (j cc : Nat) => g0 ((0 : Nat) + j) cc))])
 (.no)
def y_crcSum : Nat → Option Nat := syOf3 [] [] []
def TL_crcSum (l : List At) : Tr (List At) := T_crcSum (aRn l 0) (aRg l 0)
theorem e_crcSum (l : List At) : (call Try.prog Γ_crcMore y_crcSum noLoops 100 Try.f47 (mkV ish_crcSum l) (mkH ish_crcSum l)).bind (leafO 1 osh_crcSum) = TL_crcSum l := by kernel_rfl
def r_crcSum_0 (n0 : Nat) (g0 : Nat → Nat → Int) : Int :=
  bif ok_crcMore (0 : Int) n0 fun (j cc : Nat) => g0 ((0 : Nat) + j) cc then (r_crcMore_0 (0 : Int) n0 fun (j cc : Nat) => g0 ((0 : Nat) + j) cc)
  else 0
def ok_crcSum (n0 : Nat) (g0 : Nat → Nat → Int) : Bool :=
  bif ok_crcMore (0 : Int) n0 fun (j cc : Nat) => g0 ((0 : Nat) + j) cc then (true)
  else false
def F_crcSum : List At → Tr (List At) := fun l => .br 0 (ok_crcSum (aRn l 0) (aRg l 0)) (.ok [.i (r_crcSum_0 (aRn l 0) (aRg l 0))]) .no
theorem s_crcSum : SpecF Try.prog 47 (.read (locR ish_crcSum osh_crcSum F_crcSum)) :=
  spec_read (sy := y_crcSum) (fuel := 100) (Lp := noLoops) o_crcMore mixed ⟨Try.func47, by kernel_rfl, by kernel_rfl⟩ ish_crcSum osh_crcSum (by kernel_rfl) (noLoops_ok _) (hT_merged [.i] e_crcSum (fun l => by kernel_rfl) (fun l => by kernel_rfl))
def Γ_crcSum : Specs := upd Γ_crcMore 47 (.read (locR ish_crcSum osh_crcSum F_crcSum))
theorem o_crcSum : SpecOK Try.prog Γ_crcSum := SpecOK.upd o_crcMore s_crcSum

/-! ### refReg -/

def ish_refReg : FSh := ⟨[.v false [.k (.n .u32)], .v false [.vw 0 1]], [.rows [.n .u8] false]⟩
def osh_refReg : FSh := ⟨[.v false [.k (.n .u32)]], [.no]⟩
def T_refReg (x0 : Int) (n1 : Nat) (g1 : Nat → Nat → Int) : Tr (List At) :=
 .br 0 (decide ((0 : Int) ≤ (0 : Int)) && decide ((0 : Int) ≤ (↑n1 : Int)) && decide ((↑n1 : Int) < (9223372036854775807 : Int)))
 (.ok [(.i (crcFold refStep (fun (j : Nat) => g1 j (0 : Nat)) (Int.toNat ((↑n1 : Int) - (0 : Int))) (0 : Nat) x0))])
 (.no)
def y_refReg : Nat → Option Nat := syOf3 [] [] []
def TL_refReg (l : List At) : Tr (List At) := T_refReg (aI l 0) (aRn l 1) (aRg l 1)
theorem e_refReg (l : List At) : (call Try.prog Γ_crcSum y_refReg Lp_refReg_2 100 Try.f57 (mkV ish_refReg l) (mkH ish_refReg l)).bind (leafO 1 osh_refReg) = TL_refReg l := by kernel_rfl
def r_refReg_0 (x0 : Int) (n1 : Nat) (g1 : Nat → Nat → Int) : Int :=
  bif decide ((0 : Int) ≤ (0 : Int)) && decide ((0 : Int) ≤ (↑n1 : Int)) && decide ((↑n1 : Int) < (9223372036854775807 : Int)) then (crcFold refStep (fun (j : Nat) => g1 j (0 : Nat)) (Int.toNat ((↑n1 : Int) - (0 : Int))) (0 : Nat) x0)
  else 0
def ok_refReg (x0 : Int) (n1 : Nat) (g1 : Nat → Nat → Int) : Bool :=
  bif decide ((0 : Int) ≤ (0 : Int)) && decide ((0 : Int) ≤ (↑n1 : Int)) && decide ((↑n1 : Int) < (9223372036854775807 : Int)) then (true)
  else false
def F_refReg : List At → Tr (List At) := fun l => .br 0 (ok_refReg (aI l 0) (aRn l 1) (aRg l 1)) (.ok [.i (r_refReg_0 (aI l 0) (aRn l 1) (aRg l 1))]) .no
theorem s_refReg : SpecF Try.prog 57 (.read (locR ish_refReg osh_refReg F_refReg)) :=
  spec_read (sy := y_refReg) (fuel := 100) (Lp := Lp_refReg_2) o_crcSum mixed ⟨Try.func57, by kernel_rfl, by kernel_rfl⟩ ish_refReg osh_refReg (by kernel_rfl) lk_refReg_2 (hT_merged [.i] e_refReg (fun l => by kernel_rfl) (fun l => by kernel_rfl))
def Γ_refReg : Specs := upd Γ_crcSum 57 (.read (locR ish_refReg osh_refReg F_refReg))
theorem o_refReg : SpecOK Try.prog Γ_refReg := SpecOK.upd o_crcSum s_refReg

/-! ### refSum -/

def ish_refSum : FSh := ⟨[.v false [.vw 0 1]], [.rows [.n .u8] false]⟩
def osh_refSum : FSh := ⟨[.v false [.k (.n .u32)]], [.no]⟩
def T_refSum (n0 : Nat) (g0 : Nat → Nat → Int) : Tr (List At) :=
 .br 0 (ok_refReg (4294967295 : Int) n0 fun (j cc : Nat) => g0 ((0 : Nat) + j) cc)
 (.ok [(.i (bits BinOp.xor IntKind.u32 (4294967295 : Int) (r_refReg_0 (4294967295 : Int) n0 fun (j cc : Nat) => g0 ((0 : Nat) + j) cc)))])
 (.no)
def y_refSum : Nat → Option Nat := syOf3 [] [] []
def TL_refSum (l : List At) : Tr (List At) := T_refSum (aRn l 0) (aRg l 0)
theorem e_refSum (l : List At) : (call Try.prog Γ_refReg y_refSum noLoops 100 Try.f49 (mkV ish_refSum l) (mkH ish_refSum l)).bind (leafO 1 osh_refSum) = TL_refSum l := by kernel_rfl
def r_refSum_0 (n0 : Nat) (g0 : Nat → Nat → Int) : Int :=
  bif ok_refReg (4294967295 : Int) n0 fun (j cc : Nat) => g0 ((0 : Nat) + j) cc then (bits BinOp.xor IntKind.u32 (4294967295 : Int) (r_refReg_0 (4294967295 : Int) n0 fun (j cc : Nat) => g0 ((0 : Nat) + j) cc))
  else 0
def ok_refSum (n0 : Nat) (g0 : Nat → Nat → Int) : Bool :=
  bif ok_refReg (4294967295 : Int) n0 fun (j cc : Nat) => g0 ((0 : Nat) + j) cc then (true)
  else false
def F_refSum : List At → Tr (List At) := fun l => .br 0 (ok_refSum (aRn l 0) (aRg l 0)) (.ok [.i (r_refSum_0 (aRn l 0) (aRg l 0))]) .no
theorem s_refSum : SpecF Try.prog 49 (.read (locR ish_refSum osh_refSum F_refSum)) :=
  spec_read (sy := y_refSum) (fuel := 100) (Lp := noLoops) o_refReg mixed ⟨Try.func49, by kernel_rfl, by kernel_rfl⟩ ish_refSum osh_refSum (by kernel_rfl) (noLoops_ok _) (hT_merged [.i] e_refSum (fun l => by kernel_rfl) (fun l => by kernel_rfl))
def Γ_refSum : Specs := upd Γ_refReg 49 (.read (locR ish_refSum osh_refSum F_refSum))
theorem o_refSum : SpecOK Try.prog Γ_refSum := SpecOK.upd o_refReg s_refSum

/-! ### crcSeal -/

def ish_crcSeal : FSh := ⟨[.v true [.k (.n .u64), .k (.n .u64), .k (.n .u64), .k (.n .u64), .k (.n .u64), .k (.n .u64), .k (.n .u64), .k (.n .u64)]], []⟩
def osh_crcSeal : FSh := ⟨[.v true [.k (.n .u64), .k (.n .u64), .k (.n .u64), .k (.n .u64), .k (.n .u64), .k (.n .u64), .k (.n .u64), .k (.n .u64)]], []⟩
def T_crcSeal (x0 : Int) (x1 : Int) (x2 : Int) (x3 : Int) (x4 : Int) (x5 : Int) (x6 : Int) (x7 : Int) : Tr (List At) :=
 .br 0 (ok_crcSum (56 : Nat) (rowsF [[r_wordBytes_0 x0], [r_wordBytes_1 x0], [r_wordBytes_2 x0], [r_wordBytes_3 x0], [r_wordBytes_4 x0], [r_wordBytes_5 x0], [r_wordBytes_6 x0], [r_wordBytes_7 x0], [r_wordBytes_8 x1], [r_wordBytes_9 x1], [r_wordBytes_10 x1], [r_wordBytes_11 x1], [r_wordBytes_12 x1], [r_wordBytes_13 x1], [r_wordBytes_14 x1], [r_wordBytes_15 x1], [r_wordBytes_16 x2], [r_wordBytes_17 x2], [r_wordBytes_18 x2], [r_wordBytes_19 x2], [r_wordBytes_20 x2], [r_wordBytes_21 x2], [r_wordBytes_22 x2], [r_wordBytes_23 x2], [r_wordBytes_24 x3], [r_wordBytes_25 x3], [r_wordBytes_26 x3], [r_wordBytes_27 x3], [r_wordBytes_28 x3], [r_wordBytes_29 x3], [r_wordBytes_30 x3], [r_wordBytes_31 x3], [r_wordBytes_32 x4], [r_wordBytes_33 x4], [r_wordBytes_34 x4], [r_wordBytes_35 x4], [r_wordBytes_36 x4], [r_wordBytes_37 x4], [r_wordBytes_38 x4], [r_wordBytes_39 x4], [r_wordBytes_40 x5], [r_wordBytes_41 x5], [r_wordBytes_42 x5], [r_wordBytes_43 x5], [r_wordBytes_44 x5], [r_wordBytes_45 x5], [r_wordBytes_46 x5], [r_wordBytes_47 x5], [r_wordBytes_48 x6], [r_wordBytes_49 x6], [r_wordBytes_50 x6], [r_wordBytes_51 x6], [r_wordBytes_52 x6], [r_wordBytes_53 x6], [r_wordBytes_54 x6], [r_wordBytes_55 x6]]))
 (.ok [(.i (x0)), (.i (x1)), (.i (x2)), (.i (x3)), (.i (x4)), (.i (x5)), (.i (x6)), (.i (bits BinOp.or IntKind.u64 (4294967296 : Int) (IntKind.wrap IntKind.u64 (r_crcSum_0 (56 : Nat) (rowsF [[r_wordBytes_0 x0], [r_wordBytes_1 x0], [r_wordBytes_2 x0], [r_wordBytes_3 x0], [r_wordBytes_4 x0], [r_wordBytes_5 x0], [r_wordBytes_6 x0], [r_wordBytes_7 x0], [r_wordBytes_8 x1], [r_wordBytes_9 x1], [r_wordBytes_10 x1], [r_wordBytes_11 x1], [r_wordBytes_12 x1], [r_wordBytes_13 x1], [r_wordBytes_14 x1], [r_wordBytes_15 x1], [r_wordBytes_16 x2], [r_wordBytes_17 x2], [r_wordBytes_18 x2], [r_wordBytes_19 x2], [r_wordBytes_20 x2], [r_wordBytes_21 x2], [r_wordBytes_22 x2], [r_wordBytes_23 x2], [r_wordBytes_24 x3], [r_wordBytes_25 x3], [r_wordBytes_26 x3], [r_wordBytes_27 x3], [r_wordBytes_28 x3], [r_wordBytes_29 x3], [r_wordBytes_30 x3], [r_wordBytes_31 x3], [r_wordBytes_32 x4], [r_wordBytes_33 x4], [r_wordBytes_34 x4], [r_wordBytes_35 x4], [r_wordBytes_36 x4], [r_wordBytes_37 x4], [r_wordBytes_38 x4], [r_wordBytes_39 x4], [r_wordBytes_40 x5], [r_wordBytes_41 x5], [r_wordBytes_42 x5], [r_wordBytes_43 x5], [r_wordBytes_44 x5], [r_wordBytes_45 x5], [r_wordBytes_46 x5], [r_wordBytes_47 x5], [r_wordBytes_48 x6], [r_wordBytes_49 x6], [r_wordBytes_50 x6], [r_wordBytes_51 x6], [r_wordBytes_52 x6], [r_wordBytes_53 x6], [r_wordBytes_54 x6], [r_wordBytes_55 x6]])))))])
 (.no)
def y_crcSeal : Nat → Option Nat := syOf3 [] [] []
def TL_crcSeal (l : List At) : Tr (List At) := T_crcSeal (aI l 0) (aI l 1) (aI l 2) (aI l 3) (aI l 4) (aI l 5) (aI l 6) (aI l 7)
theorem e_crcSeal (l : List At) : (call Try.prog Γ_refSum y_crcSeal noLoops 100 Try.f33 (mkV ish_crcSeal l) (mkH ish_crcSeal l)).bind (leafO 0 osh_crcSeal) = TL_crcSeal l := by kernel_rfl
def r_crcSeal_0 (x0 : Int) (x1 : Int) (x2 : Int) (x3 : Int) (x4 : Int) (x5 : Int) (x6 : Int) : Int :=
  bif ok_crcSum (56 : Nat) (rowsF [[r_wordBytes_0 x0], [r_wordBytes_1 x0], [r_wordBytes_2 x0], [r_wordBytes_3 x0], [r_wordBytes_4 x0], [r_wordBytes_5 x0], [r_wordBytes_6 x0], [r_wordBytes_7 x0], [r_wordBytes_8 x1], [r_wordBytes_9 x1], [r_wordBytes_10 x1], [r_wordBytes_11 x1], [r_wordBytes_12 x1], [r_wordBytes_13 x1], [r_wordBytes_14 x1], [r_wordBytes_15 x1], [r_wordBytes_16 x2], [r_wordBytes_17 x2], [r_wordBytes_18 x2], [r_wordBytes_19 x2], [r_wordBytes_20 x2], [r_wordBytes_21 x2], [r_wordBytes_22 x2], [r_wordBytes_23 x2], [r_wordBytes_24 x3], [r_wordBytes_25 x3], [r_wordBytes_26 x3], [r_wordBytes_27 x3], [r_wordBytes_28 x3], [r_wordBytes_29 x3], [r_wordBytes_30 x3], [r_wordBytes_31 x3], [r_wordBytes_32 x4], [r_wordBytes_33 x4], [r_wordBytes_34 x4], [r_wordBytes_35 x4], [r_wordBytes_36 x4], [r_wordBytes_37 x4], [r_wordBytes_38 x4], [r_wordBytes_39 x4], [r_wordBytes_40 x5], [r_wordBytes_41 x5], [r_wordBytes_42 x5], [r_wordBytes_43 x5], [r_wordBytes_44 x5], [r_wordBytes_45 x5], [r_wordBytes_46 x5], [r_wordBytes_47 x5], [r_wordBytes_48 x6], [r_wordBytes_49 x6], [r_wordBytes_50 x6], [r_wordBytes_51 x6], [r_wordBytes_52 x6], [r_wordBytes_53 x6], [r_wordBytes_54 x6], [r_wordBytes_55 x6]]) then (x0)
  else 0
def r_crcSeal_1 (x0 : Int) (x1 : Int) (x2 : Int) (x3 : Int) (x4 : Int) (x5 : Int) (x6 : Int) : Int :=
  bif ok_crcSum (56 : Nat) (rowsF [[r_wordBytes_0 x0], [r_wordBytes_1 x0], [r_wordBytes_2 x0], [r_wordBytes_3 x0], [r_wordBytes_4 x0], [r_wordBytes_5 x0], [r_wordBytes_6 x0], [r_wordBytes_7 x0], [r_wordBytes_8 x1], [r_wordBytes_9 x1], [r_wordBytes_10 x1], [r_wordBytes_11 x1], [r_wordBytes_12 x1], [r_wordBytes_13 x1], [r_wordBytes_14 x1], [r_wordBytes_15 x1], [r_wordBytes_16 x2], [r_wordBytes_17 x2], [r_wordBytes_18 x2], [r_wordBytes_19 x2], [r_wordBytes_20 x2], [r_wordBytes_21 x2], [r_wordBytes_22 x2], [r_wordBytes_23 x2], [r_wordBytes_24 x3], [r_wordBytes_25 x3], [r_wordBytes_26 x3], [r_wordBytes_27 x3], [r_wordBytes_28 x3], [r_wordBytes_29 x3], [r_wordBytes_30 x3], [r_wordBytes_31 x3], [r_wordBytes_32 x4], [r_wordBytes_33 x4], [r_wordBytes_34 x4], [r_wordBytes_35 x4], [r_wordBytes_36 x4], [r_wordBytes_37 x4], [r_wordBytes_38 x4], [r_wordBytes_39 x4], [r_wordBytes_40 x5], [r_wordBytes_41 x5], [r_wordBytes_42 x5], [r_wordBytes_43 x5], [r_wordBytes_44 x5], [r_wordBytes_45 x5], [r_wordBytes_46 x5], [r_wordBytes_47 x5], [r_wordBytes_48 x6], [r_wordBytes_49 x6], [r_wordBytes_50 x6], [r_wordBytes_51 x6], [r_wordBytes_52 x6], [r_wordBytes_53 x6], [r_wordBytes_54 x6], [r_wordBytes_55 x6]]) then (x1)
  else 0
def r_crcSeal_2 (x0 : Int) (x1 : Int) (x2 : Int) (x3 : Int) (x4 : Int) (x5 : Int) (x6 : Int) : Int :=
  bif ok_crcSum (56 : Nat) (rowsF [[r_wordBytes_0 x0], [r_wordBytes_1 x0], [r_wordBytes_2 x0], [r_wordBytes_3 x0], [r_wordBytes_4 x0], [r_wordBytes_5 x0], [r_wordBytes_6 x0], [r_wordBytes_7 x0], [r_wordBytes_8 x1], [r_wordBytes_9 x1], [r_wordBytes_10 x1], [r_wordBytes_11 x1], [r_wordBytes_12 x1], [r_wordBytes_13 x1], [r_wordBytes_14 x1], [r_wordBytes_15 x1], [r_wordBytes_16 x2], [r_wordBytes_17 x2], [r_wordBytes_18 x2], [r_wordBytes_19 x2], [r_wordBytes_20 x2], [r_wordBytes_21 x2], [r_wordBytes_22 x2], [r_wordBytes_23 x2], [r_wordBytes_24 x3], [r_wordBytes_25 x3], [r_wordBytes_26 x3], [r_wordBytes_27 x3], [r_wordBytes_28 x3], [r_wordBytes_29 x3], [r_wordBytes_30 x3], [r_wordBytes_31 x3], [r_wordBytes_32 x4], [r_wordBytes_33 x4], [r_wordBytes_34 x4], [r_wordBytes_35 x4], [r_wordBytes_36 x4], [r_wordBytes_37 x4], [r_wordBytes_38 x4], [r_wordBytes_39 x4], [r_wordBytes_40 x5], [r_wordBytes_41 x5], [r_wordBytes_42 x5], [r_wordBytes_43 x5], [r_wordBytes_44 x5], [r_wordBytes_45 x5], [r_wordBytes_46 x5], [r_wordBytes_47 x5], [r_wordBytes_48 x6], [r_wordBytes_49 x6], [r_wordBytes_50 x6], [r_wordBytes_51 x6], [r_wordBytes_52 x6], [r_wordBytes_53 x6], [r_wordBytes_54 x6], [r_wordBytes_55 x6]]) then (x2)
  else 0
def r_crcSeal_3 (x0 : Int) (x1 : Int) (x2 : Int) (x3 : Int) (x4 : Int) (x5 : Int) (x6 : Int) : Int :=
  bif ok_crcSum (56 : Nat) (rowsF [[r_wordBytes_0 x0], [r_wordBytes_1 x0], [r_wordBytes_2 x0], [r_wordBytes_3 x0], [r_wordBytes_4 x0], [r_wordBytes_5 x0], [r_wordBytes_6 x0], [r_wordBytes_7 x0], [r_wordBytes_8 x1], [r_wordBytes_9 x1], [r_wordBytes_10 x1], [r_wordBytes_11 x1], [r_wordBytes_12 x1], [r_wordBytes_13 x1], [r_wordBytes_14 x1], [r_wordBytes_15 x1], [r_wordBytes_16 x2], [r_wordBytes_17 x2], [r_wordBytes_18 x2], [r_wordBytes_19 x2], [r_wordBytes_20 x2], [r_wordBytes_21 x2], [r_wordBytes_22 x2], [r_wordBytes_23 x2], [r_wordBytes_24 x3], [r_wordBytes_25 x3], [r_wordBytes_26 x3], [r_wordBytes_27 x3], [r_wordBytes_28 x3], [r_wordBytes_29 x3], [r_wordBytes_30 x3], [r_wordBytes_31 x3], [r_wordBytes_32 x4], [r_wordBytes_33 x4], [r_wordBytes_34 x4], [r_wordBytes_35 x4], [r_wordBytes_36 x4], [r_wordBytes_37 x4], [r_wordBytes_38 x4], [r_wordBytes_39 x4], [r_wordBytes_40 x5], [r_wordBytes_41 x5], [r_wordBytes_42 x5], [r_wordBytes_43 x5], [r_wordBytes_44 x5], [r_wordBytes_45 x5], [r_wordBytes_46 x5], [r_wordBytes_47 x5], [r_wordBytes_48 x6], [r_wordBytes_49 x6], [r_wordBytes_50 x6], [r_wordBytes_51 x6], [r_wordBytes_52 x6], [r_wordBytes_53 x6], [r_wordBytes_54 x6], [r_wordBytes_55 x6]]) then (x3)
  else 0
def r_crcSeal_4 (x0 : Int) (x1 : Int) (x2 : Int) (x3 : Int) (x4 : Int) (x5 : Int) (x6 : Int) : Int :=
  bif ok_crcSum (56 : Nat) (rowsF [[r_wordBytes_0 x0], [r_wordBytes_1 x0], [r_wordBytes_2 x0], [r_wordBytes_3 x0], [r_wordBytes_4 x0], [r_wordBytes_5 x0], [r_wordBytes_6 x0], [r_wordBytes_7 x0], [r_wordBytes_8 x1], [r_wordBytes_9 x1], [r_wordBytes_10 x1], [r_wordBytes_11 x1], [r_wordBytes_12 x1], [r_wordBytes_13 x1], [r_wordBytes_14 x1], [r_wordBytes_15 x1], [r_wordBytes_16 x2], [r_wordBytes_17 x2], [r_wordBytes_18 x2], [r_wordBytes_19 x2], [r_wordBytes_20 x2], [r_wordBytes_21 x2], [r_wordBytes_22 x2], [r_wordBytes_23 x2], [r_wordBytes_24 x3], [r_wordBytes_25 x3], [r_wordBytes_26 x3], [r_wordBytes_27 x3], [r_wordBytes_28 x3], [r_wordBytes_29 x3], [r_wordBytes_30 x3], [r_wordBytes_31 x3], [r_wordBytes_32 x4], [r_wordBytes_33 x4], [r_wordBytes_34 x4], [r_wordBytes_35 x4], [r_wordBytes_36 x4], [r_wordBytes_37 x4], [r_wordBytes_38 x4], [r_wordBytes_39 x4], [r_wordBytes_40 x5], [r_wordBytes_41 x5], [r_wordBytes_42 x5], [r_wordBytes_43 x5], [r_wordBytes_44 x5], [r_wordBytes_45 x5], [r_wordBytes_46 x5], [r_wordBytes_47 x5], [r_wordBytes_48 x6], [r_wordBytes_49 x6], [r_wordBytes_50 x6], [r_wordBytes_51 x6], [r_wordBytes_52 x6], [r_wordBytes_53 x6], [r_wordBytes_54 x6], [r_wordBytes_55 x6]]) then (x4)
  else 0
def r_crcSeal_5 (x0 : Int) (x1 : Int) (x2 : Int) (x3 : Int) (x4 : Int) (x5 : Int) (x6 : Int) : Int :=
  bif ok_crcSum (56 : Nat) (rowsF [[r_wordBytes_0 x0], [r_wordBytes_1 x0], [r_wordBytes_2 x0], [r_wordBytes_3 x0], [r_wordBytes_4 x0], [r_wordBytes_5 x0], [r_wordBytes_6 x0], [r_wordBytes_7 x0], [r_wordBytes_8 x1], [r_wordBytes_9 x1], [r_wordBytes_10 x1], [r_wordBytes_11 x1], [r_wordBytes_12 x1], [r_wordBytes_13 x1], [r_wordBytes_14 x1], [r_wordBytes_15 x1], [r_wordBytes_16 x2], [r_wordBytes_17 x2], [r_wordBytes_18 x2], [r_wordBytes_19 x2], [r_wordBytes_20 x2], [r_wordBytes_21 x2], [r_wordBytes_22 x2], [r_wordBytes_23 x2], [r_wordBytes_24 x3], [r_wordBytes_25 x3], [r_wordBytes_26 x3], [r_wordBytes_27 x3], [r_wordBytes_28 x3], [r_wordBytes_29 x3], [r_wordBytes_30 x3], [r_wordBytes_31 x3], [r_wordBytes_32 x4], [r_wordBytes_33 x4], [r_wordBytes_34 x4], [r_wordBytes_35 x4], [r_wordBytes_36 x4], [r_wordBytes_37 x4], [r_wordBytes_38 x4], [r_wordBytes_39 x4], [r_wordBytes_40 x5], [r_wordBytes_41 x5], [r_wordBytes_42 x5], [r_wordBytes_43 x5], [r_wordBytes_44 x5], [r_wordBytes_45 x5], [r_wordBytes_46 x5], [r_wordBytes_47 x5], [r_wordBytes_48 x6], [r_wordBytes_49 x6], [r_wordBytes_50 x6], [r_wordBytes_51 x6], [r_wordBytes_52 x6], [r_wordBytes_53 x6], [r_wordBytes_54 x6], [r_wordBytes_55 x6]]) then (x5)
  else 0
def r_crcSeal_6 (x0 : Int) (x1 : Int) (x2 : Int) (x3 : Int) (x4 : Int) (x5 : Int) (x6 : Int) : Int :=
  bif ok_crcSum (56 : Nat) (rowsF [[r_wordBytes_0 x0], [r_wordBytes_1 x0], [r_wordBytes_2 x0], [r_wordBytes_3 x0], [r_wordBytes_4 x0], [r_wordBytes_5 x0], [r_wordBytes_6 x0], [r_wordBytes_7 x0], [r_wordBytes_8 x1], [r_wordBytes_9 x1], [r_wordBytes_10 x1], [r_wordBytes_11 x1], [r_wordBytes_12 x1], [r_wordBytes_13 x1], [r_wordBytes_14 x1], [r_wordBytes_15 x1], [r_wordBytes_16 x2], [r_wordBytes_17 x2], [r_wordBytes_18 x2], [r_wordBytes_19 x2], [r_wordBytes_20 x2], [r_wordBytes_21 x2], [r_wordBytes_22 x2], [r_wordBytes_23 x2], [r_wordBytes_24 x3], [r_wordBytes_25 x3], [r_wordBytes_26 x3], [r_wordBytes_27 x3], [r_wordBytes_28 x3], [r_wordBytes_29 x3], [r_wordBytes_30 x3], [r_wordBytes_31 x3], [r_wordBytes_32 x4], [r_wordBytes_33 x4], [r_wordBytes_34 x4], [r_wordBytes_35 x4], [r_wordBytes_36 x4], [r_wordBytes_37 x4], [r_wordBytes_38 x4], [r_wordBytes_39 x4], [r_wordBytes_40 x5], [r_wordBytes_41 x5], [r_wordBytes_42 x5], [r_wordBytes_43 x5], [r_wordBytes_44 x5], [r_wordBytes_45 x5], [r_wordBytes_46 x5], [r_wordBytes_47 x5], [r_wordBytes_48 x6], [r_wordBytes_49 x6], [r_wordBytes_50 x6], [r_wordBytes_51 x6], [r_wordBytes_52 x6], [r_wordBytes_53 x6], [r_wordBytes_54 x6], [r_wordBytes_55 x6]]) then (x6)
  else 0
def r_crcSeal_7 (x0 : Int) (x1 : Int) (x2 : Int) (x3 : Int) (x4 : Int) (x5 : Int) (x6 : Int) : Int :=
  bif ok_crcSum (56 : Nat) (rowsF [[r_wordBytes_0 x0], [r_wordBytes_1 x0], [r_wordBytes_2 x0], [r_wordBytes_3 x0], [r_wordBytes_4 x0], [r_wordBytes_5 x0], [r_wordBytes_6 x0], [r_wordBytes_7 x0], [r_wordBytes_8 x1], [r_wordBytes_9 x1], [r_wordBytes_10 x1], [r_wordBytes_11 x1], [r_wordBytes_12 x1], [r_wordBytes_13 x1], [r_wordBytes_14 x1], [r_wordBytes_15 x1], [r_wordBytes_16 x2], [r_wordBytes_17 x2], [r_wordBytes_18 x2], [r_wordBytes_19 x2], [r_wordBytes_20 x2], [r_wordBytes_21 x2], [r_wordBytes_22 x2], [r_wordBytes_23 x2], [r_wordBytes_24 x3], [r_wordBytes_25 x3], [r_wordBytes_26 x3], [r_wordBytes_27 x3], [r_wordBytes_28 x3], [r_wordBytes_29 x3], [r_wordBytes_30 x3], [r_wordBytes_31 x3], [r_wordBytes_32 x4], [r_wordBytes_33 x4], [r_wordBytes_34 x4], [r_wordBytes_35 x4], [r_wordBytes_36 x4], [r_wordBytes_37 x4], [r_wordBytes_38 x4], [r_wordBytes_39 x4], [r_wordBytes_40 x5], [r_wordBytes_41 x5], [r_wordBytes_42 x5], [r_wordBytes_43 x5], [r_wordBytes_44 x5], [r_wordBytes_45 x5], [r_wordBytes_46 x5], [r_wordBytes_47 x5], [r_wordBytes_48 x6], [r_wordBytes_49 x6], [r_wordBytes_50 x6], [r_wordBytes_51 x6], [r_wordBytes_52 x6], [r_wordBytes_53 x6], [r_wordBytes_54 x6], [r_wordBytes_55 x6]]) then (bits BinOp.or IntKind.u64 (4294967296 : Int) (IntKind.wrap IntKind.u64 (r_crcSum_0 (56 : Nat) (rowsF [[r_wordBytes_0 x0], [r_wordBytes_1 x0], [r_wordBytes_2 x0], [r_wordBytes_3 x0], [r_wordBytes_4 x0], [r_wordBytes_5 x0], [r_wordBytes_6 x0], [r_wordBytes_7 x0], [r_wordBytes_8 x1], [r_wordBytes_9 x1], [r_wordBytes_10 x1], [r_wordBytes_11 x1], [r_wordBytes_12 x1], [r_wordBytes_13 x1], [r_wordBytes_14 x1], [r_wordBytes_15 x1], [r_wordBytes_16 x2], [r_wordBytes_17 x2], [r_wordBytes_18 x2], [r_wordBytes_19 x2], [r_wordBytes_20 x2], [r_wordBytes_21 x2], [r_wordBytes_22 x2], [r_wordBytes_23 x2], [r_wordBytes_24 x3], [r_wordBytes_25 x3], [r_wordBytes_26 x3], [r_wordBytes_27 x3], [r_wordBytes_28 x3], [r_wordBytes_29 x3], [r_wordBytes_30 x3], [r_wordBytes_31 x3], [r_wordBytes_32 x4], [r_wordBytes_33 x4], [r_wordBytes_34 x4], [r_wordBytes_35 x4], [r_wordBytes_36 x4], [r_wordBytes_37 x4], [r_wordBytes_38 x4], [r_wordBytes_39 x4], [r_wordBytes_40 x5], [r_wordBytes_41 x5], [r_wordBytes_42 x5], [r_wordBytes_43 x5], [r_wordBytes_44 x5], [r_wordBytes_45 x5], [r_wordBytes_46 x5], [r_wordBytes_47 x5], [r_wordBytes_48 x6], [r_wordBytes_49 x6], [r_wordBytes_50 x6], [r_wordBytes_51 x6], [r_wordBytes_52 x6], [r_wordBytes_53 x6], [r_wordBytes_54 x6], [r_wordBytes_55 x6]]))))
  else 0
def ok_crcSeal (x0 : Int) (x1 : Int) (x2 : Int) (x3 : Int) (x4 : Int) (x5 : Int) (x6 : Int) (x7 : Int) : Bool :=
  bif ok_crcSum (56 : Nat) (rowsF [[r_wordBytes_0 x0], [r_wordBytes_1 x0], [r_wordBytes_2 x0], [r_wordBytes_3 x0], [r_wordBytes_4 x0], [r_wordBytes_5 x0], [r_wordBytes_6 x0], [r_wordBytes_7 x0], [r_wordBytes_8 x1], [r_wordBytes_9 x1], [r_wordBytes_10 x1], [r_wordBytes_11 x1], [r_wordBytes_12 x1], [r_wordBytes_13 x1], [r_wordBytes_14 x1], [r_wordBytes_15 x1], [r_wordBytes_16 x2], [r_wordBytes_17 x2], [r_wordBytes_18 x2], [r_wordBytes_19 x2], [r_wordBytes_20 x2], [r_wordBytes_21 x2], [r_wordBytes_22 x2], [r_wordBytes_23 x2], [r_wordBytes_24 x3], [r_wordBytes_25 x3], [r_wordBytes_26 x3], [r_wordBytes_27 x3], [r_wordBytes_28 x3], [r_wordBytes_29 x3], [r_wordBytes_30 x3], [r_wordBytes_31 x3], [r_wordBytes_32 x4], [r_wordBytes_33 x4], [r_wordBytes_34 x4], [r_wordBytes_35 x4], [r_wordBytes_36 x4], [r_wordBytes_37 x4], [r_wordBytes_38 x4], [r_wordBytes_39 x4], [r_wordBytes_40 x5], [r_wordBytes_41 x5], [r_wordBytes_42 x5], [r_wordBytes_43 x5], [r_wordBytes_44 x5], [r_wordBytes_45 x5], [r_wordBytes_46 x5], [r_wordBytes_47 x5], [r_wordBytes_48 x6], [r_wordBytes_49 x6], [r_wordBytes_50 x6], [r_wordBytes_51 x6], [r_wordBytes_52 x6], [r_wordBytes_53 x6], [r_wordBytes_54 x6], [r_wordBytes_55 x6]]) then (true)
  else false
def F_crcSeal : List At → Tr (List At) := fun l => .br 0 (ok_crcSeal (aI l 0) (aI l 1) (aI l 2) (aI l 3) (aI l 4) (aI l 5) (aI l 6) (aI l 7)) (.ok [.i (r_crcSeal_0 (aI l 0) (aI l 1) (aI l 2) (aI l 3) (aI l 4) (aI l 5) (aI l 6)), .i (r_crcSeal_1 (aI l 0) (aI l 1) (aI l 2) (aI l 3) (aI l 4) (aI l 5) (aI l 6)), .i (r_crcSeal_2 (aI l 0) (aI l 1) (aI l 2) (aI l 3) (aI l 4) (aI l 5) (aI l 6)), .i (r_crcSeal_3 (aI l 0) (aI l 1) (aI l 2) (aI l 3) (aI l 4) (aI l 5) (aI l 6)), .i (r_crcSeal_4 (aI l 0) (aI l 1) (aI l 2) (aI l 3) (aI l 4) (aI l 5) (aI l 6)), .i (r_crcSeal_5 (aI l 0) (aI l 1) (aI l 2) (aI l 3) (aI l 4) (aI l 5) (aI l 6)), .i (r_crcSeal_6 (aI l 0) (aI l 1) (aI l 2) (aI l 3) (aI l 4) (aI l 5) (aI l 6)), .i (r_crcSeal_7 (aI l 0) (aI l 1) (aI l 2) (aI l 3) (aI l 4) (aI l 5) (aI l 6))]) .no
theorem s_crcSeal : SpecF Try.prog 33 (.pure (locP ish_crcSeal osh_crcSeal F_crcSeal)) :=
  spec_locP (sy := y_crcSeal) (fuel := 100) (Lp := noLoops) o_refSum mixed ⟨Try.func33, by kernel_rfl, by kernel_rfl⟩ ish_crcSeal osh_crcSeal rfl (noLoops_ok _) (hT_merged [.i, .i, .i, .i, .i, .i, .i, .i] e_crcSeal (fun l => by kernel_rfl) (fun l => by kernel_rfl))
def Γ_crcSeal : Specs := upd Γ_refSum 33 (.pure (locP ish_crcSeal osh_crcSeal F_crcSeal))
theorem o_crcSeal : SpecOK Try.prog Γ_crcSeal := SpecOK.upd o_refSum s_crcSeal

/-! ### refSeal -/

def ish_refSeal : FSh := ⟨[.v true [.k (.n .u64), .k (.n .u64), .k (.n .u64), .k (.n .u64), .k (.n .u64), .k (.n .u64), .k (.n .u64), .k (.n .u64)]], []⟩
def osh_refSeal : FSh := ⟨[.v true [.k (.n .u64), .k (.n .u64), .k (.n .u64), .k (.n .u64), .k (.n .u64), .k (.n .u64), .k (.n .u64), .k (.n .u64)]], []⟩
def T_refSeal (x0 : Int) (x1 : Int) (x2 : Int) (x3 : Int) (x4 : Int) (x5 : Int) (x6 : Int) (x7 : Int) : Tr (List At) :=
 .br 0 (ok_refSum (56 : Nat) (rowsF [[r_refBytes_0 x0], [r_refBytes_1 x0], [r_refBytes_2 x0], [r_refBytes_3 x0], [r_refBytes_4 x0], [r_refBytes_5 x0], [r_refBytes_6 x0], [r_refBytes_7 x0], [r_refBytes_8 x1], [r_refBytes_9 x1], [r_refBytes_10 x1], [r_refBytes_11 x1], [r_refBytes_12 x1], [r_refBytes_13 x1], [r_refBytes_14 x1], [r_refBytes_15 x1], [r_refBytes_16 x2], [r_refBytes_17 x2], [r_refBytes_18 x2], [r_refBytes_19 x2], [r_refBytes_20 x2], [r_refBytes_21 x2], [r_refBytes_22 x2], [r_refBytes_23 x2], [r_refBytes_24 x3], [r_refBytes_25 x3], [r_refBytes_26 x3], [r_refBytes_27 x3], [r_refBytes_28 x3], [r_refBytes_29 x3], [r_refBytes_30 x3], [r_refBytes_31 x3], [r_refBytes_32 x4], [r_refBytes_33 x4], [r_refBytes_34 x4], [r_refBytes_35 x4], [r_refBytes_36 x4], [r_refBytes_37 x4], [r_refBytes_38 x4], [r_refBytes_39 x4], [r_refBytes_40 x5], [r_refBytes_41 x5], [r_refBytes_42 x5], [r_refBytes_43 x5], [r_refBytes_44 x5], [r_refBytes_45 x5], [r_refBytes_46 x5], [r_refBytes_47 x5], [r_refBytes_48 x6], [r_refBytes_49 x6], [r_refBytes_50 x6], [r_refBytes_51 x6], [r_refBytes_52 x6], [r_refBytes_53 x6], [r_refBytes_54 x6], [r_refBytes_55 x6]]))
 (.ok [(.i (x0)), (.i (x1)), (.i (x2)), (.i (x3)), (.i (x4)), (.i (x5)), (.i (x6)), (.i (bits BinOp.or IntKind.u64 (IntKind.wrap IntKind.u64 (r_refSum_0 (56 : Nat) (rowsF [[r_refBytes_0 x0], [r_refBytes_1 x0], [r_refBytes_2 x0], [r_refBytes_3 x0], [r_refBytes_4 x0], [r_refBytes_5 x0], [r_refBytes_6 x0], [r_refBytes_7 x0], [r_refBytes_8 x1], [r_refBytes_9 x1], [r_refBytes_10 x1], [r_refBytes_11 x1], [r_refBytes_12 x1], [r_refBytes_13 x1], [r_refBytes_14 x1], [r_refBytes_15 x1], [r_refBytes_16 x2], [r_refBytes_17 x2], [r_refBytes_18 x2], [r_refBytes_19 x2], [r_refBytes_20 x2], [r_refBytes_21 x2], [r_refBytes_22 x2], [r_refBytes_23 x2], [r_refBytes_24 x3], [r_refBytes_25 x3], [r_refBytes_26 x3], [r_refBytes_27 x3], [r_refBytes_28 x3], [r_refBytes_29 x3], [r_refBytes_30 x3], [r_refBytes_31 x3], [r_refBytes_32 x4], [r_refBytes_33 x4], [r_refBytes_34 x4], [r_refBytes_35 x4], [r_refBytes_36 x4], [r_refBytes_37 x4], [r_refBytes_38 x4], [r_refBytes_39 x4], [r_refBytes_40 x5], [r_refBytes_41 x5], [r_refBytes_42 x5], [r_refBytes_43 x5], [r_refBytes_44 x5], [r_refBytes_45 x5], [r_refBytes_46 x5], [r_refBytes_47 x5], [r_refBytes_48 x6], [r_refBytes_49 x6], [r_refBytes_50 x6], [r_refBytes_51 x6], [r_refBytes_52 x6], [r_refBytes_53 x6], [r_refBytes_54 x6], [r_refBytes_55 x6]]))) (4294967296 : Int)))])
 (.no)
def y_refSeal : Nat → Option Nat := syOf3 [] [] []
def TL_refSeal (l : List At) : Tr (List At) := T_refSeal (aI l 0) (aI l 1) (aI l 2) (aI l 3) (aI l 4) (aI l 5) (aI l 6) (aI l 7)
theorem e_refSeal (l : List At) : (call Try.prog Γ_crcSeal y_refSeal noLoops 100 Try.f34 (mkV ish_refSeal l) (mkH ish_refSeal l)).bind (leafO 0 osh_refSeal) = TL_refSeal l := by kernel_rfl
def r_refSeal_0 (x0 : Int) (x1 : Int) (x2 : Int) (x3 : Int) (x4 : Int) (x5 : Int) (x6 : Int) : Int :=
  bif ok_refSum (56 : Nat) (rowsF [[r_refBytes_0 x0], [r_refBytes_1 x0], [r_refBytes_2 x0], [r_refBytes_3 x0], [r_refBytes_4 x0], [r_refBytes_5 x0], [r_refBytes_6 x0], [r_refBytes_7 x0], [r_refBytes_8 x1], [r_refBytes_9 x1], [r_refBytes_10 x1], [r_refBytes_11 x1], [r_refBytes_12 x1], [r_refBytes_13 x1], [r_refBytes_14 x1], [r_refBytes_15 x1], [r_refBytes_16 x2], [r_refBytes_17 x2], [r_refBytes_18 x2], [r_refBytes_19 x2], [r_refBytes_20 x2], [r_refBytes_21 x2], [r_refBytes_22 x2], [r_refBytes_23 x2], [r_refBytes_24 x3], [r_refBytes_25 x3], [r_refBytes_26 x3], [r_refBytes_27 x3], [r_refBytes_28 x3], [r_refBytes_29 x3], [r_refBytes_30 x3], [r_refBytes_31 x3], [r_refBytes_32 x4], [r_refBytes_33 x4], [r_refBytes_34 x4], [r_refBytes_35 x4], [r_refBytes_36 x4], [r_refBytes_37 x4], [r_refBytes_38 x4], [r_refBytes_39 x4], [r_refBytes_40 x5], [r_refBytes_41 x5], [r_refBytes_42 x5], [r_refBytes_43 x5], [r_refBytes_44 x5], [r_refBytes_45 x5], [r_refBytes_46 x5], [r_refBytes_47 x5], [r_refBytes_48 x6], [r_refBytes_49 x6], [r_refBytes_50 x6], [r_refBytes_51 x6], [r_refBytes_52 x6], [r_refBytes_53 x6], [r_refBytes_54 x6], [r_refBytes_55 x6]]) then (x0)
  else 0
def r_refSeal_1 (x0 : Int) (x1 : Int) (x2 : Int) (x3 : Int) (x4 : Int) (x5 : Int) (x6 : Int) : Int :=
  bif ok_refSum (56 : Nat) (rowsF [[r_refBytes_0 x0], [r_refBytes_1 x0], [r_refBytes_2 x0], [r_refBytes_3 x0], [r_refBytes_4 x0], [r_refBytes_5 x0], [r_refBytes_6 x0], [r_refBytes_7 x0], [r_refBytes_8 x1], [r_refBytes_9 x1], [r_refBytes_10 x1], [r_refBytes_11 x1], [r_refBytes_12 x1], [r_refBytes_13 x1], [r_refBytes_14 x1], [r_refBytes_15 x1], [r_refBytes_16 x2], [r_refBytes_17 x2], [r_refBytes_18 x2], [r_refBytes_19 x2], [r_refBytes_20 x2], [r_refBytes_21 x2], [r_refBytes_22 x2], [r_refBytes_23 x2], [r_refBytes_24 x3], [r_refBytes_25 x3], [r_refBytes_26 x3], [r_refBytes_27 x3], [r_refBytes_28 x3], [r_refBytes_29 x3], [r_refBytes_30 x3], [r_refBytes_31 x3], [r_refBytes_32 x4], [r_refBytes_33 x4], [r_refBytes_34 x4], [r_refBytes_35 x4], [r_refBytes_36 x4], [r_refBytes_37 x4], [r_refBytes_38 x4], [r_refBytes_39 x4], [r_refBytes_40 x5], [r_refBytes_41 x5], [r_refBytes_42 x5], [r_refBytes_43 x5], [r_refBytes_44 x5], [r_refBytes_45 x5], [r_refBytes_46 x5], [r_refBytes_47 x5], [r_refBytes_48 x6], [r_refBytes_49 x6], [r_refBytes_50 x6], [r_refBytes_51 x6], [r_refBytes_52 x6], [r_refBytes_53 x6], [r_refBytes_54 x6], [r_refBytes_55 x6]]) then (x1)
  else 0
def r_refSeal_2 (x0 : Int) (x1 : Int) (x2 : Int) (x3 : Int) (x4 : Int) (x5 : Int) (x6 : Int) : Int :=
  bif ok_refSum (56 : Nat) (rowsF [[r_refBytes_0 x0], [r_refBytes_1 x0], [r_refBytes_2 x0], [r_refBytes_3 x0], [r_refBytes_4 x0], [r_refBytes_5 x0], [r_refBytes_6 x0], [r_refBytes_7 x0], [r_refBytes_8 x1], [r_refBytes_9 x1], [r_refBytes_10 x1], [r_refBytes_11 x1], [r_refBytes_12 x1], [r_refBytes_13 x1], [r_refBytes_14 x1], [r_refBytes_15 x1], [r_refBytes_16 x2], [r_refBytes_17 x2], [r_refBytes_18 x2], [r_refBytes_19 x2], [r_refBytes_20 x2], [r_refBytes_21 x2], [r_refBytes_22 x2], [r_refBytes_23 x2], [r_refBytes_24 x3], [r_refBytes_25 x3], [r_refBytes_26 x3], [r_refBytes_27 x3], [r_refBytes_28 x3], [r_refBytes_29 x3], [r_refBytes_30 x3], [r_refBytes_31 x3], [r_refBytes_32 x4], [r_refBytes_33 x4], [r_refBytes_34 x4], [r_refBytes_35 x4], [r_refBytes_36 x4], [r_refBytes_37 x4], [r_refBytes_38 x4], [r_refBytes_39 x4], [r_refBytes_40 x5], [r_refBytes_41 x5], [r_refBytes_42 x5], [r_refBytes_43 x5], [r_refBytes_44 x5], [r_refBytes_45 x5], [r_refBytes_46 x5], [r_refBytes_47 x5], [r_refBytes_48 x6], [r_refBytes_49 x6], [r_refBytes_50 x6], [r_refBytes_51 x6], [r_refBytes_52 x6], [r_refBytes_53 x6], [r_refBytes_54 x6], [r_refBytes_55 x6]]) then (x2)
  else 0
def r_refSeal_3 (x0 : Int) (x1 : Int) (x2 : Int) (x3 : Int) (x4 : Int) (x5 : Int) (x6 : Int) : Int :=
  bif ok_refSum (56 : Nat) (rowsF [[r_refBytes_0 x0], [r_refBytes_1 x0], [r_refBytes_2 x0], [r_refBytes_3 x0], [r_refBytes_4 x0], [r_refBytes_5 x0], [r_refBytes_6 x0], [r_refBytes_7 x0], [r_refBytes_8 x1], [r_refBytes_9 x1], [r_refBytes_10 x1], [r_refBytes_11 x1], [r_refBytes_12 x1], [r_refBytes_13 x1], [r_refBytes_14 x1], [r_refBytes_15 x1], [r_refBytes_16 x2], [r_refBytes_17 x2], [r_refBytes_18 x2], [r_refBytes_19 x2], [r_refBytes_20 x2], [r_refBytes_21 x2], [r_refBytes_22 x2], [r_refBytes_23 x2], [r_refBytes_24 x3], [r_refBytes_25 x3], [r_refBytes_26 x3], [r_refBytes_27 x3], [r_refBytes_28 x3], [r_refBytes_29 x3], [r_refBytes_30 x3], [r_refBytes_31 x3], [r_refBytes_32 x4], [r_refBytes_33 x4], [r_refBytes_34 x4], [r_refBytes_35 x4], [r_refBytes_36 x4], [r_refBytes_37 x4], [r_refBytes_38 x4], [r_refBytes_39 x4], [r_refBytes_40 x5], [r_refBytes_41 x5], [r_refBytes_42 x5], [r_refBytes_43 x5], [r_refBytes_44 x5], [r_refBytes_45 x5], [r_refBytes_46 x5], [r_refBytes_47 x5], [r_refBytes_48 x6], [r_refBytes_49 x6], [r_refBytes_50 x6], [r_refBytes_51 x6], [r_refBytes_52 x6], [r_refBytes_53 x6], [r_refBytes_54 x6], [r_refBytes_55 x6]]) then (x3)
  else 0
def r_refSeal_4 (x0 : Int) (x1 : Int) (x2 : Int) (x3 : Int) (x4 : Int) (x5 : Int) (x6 : Int) : Int :=
  bif ok_refSum (56 : Nat) (rowsF [[r_refBytes_0 x0], [r_refBytes_1 x0], [r_refBytes_2 x0], [r_refBytes_3 x0], [r_refBytes_4 x0], [r_refBytes_5 x0], [r_refBytes_6 x0], [r_refBytes_7 x0], [r_refBytes_8 x1], [r_refBytes_9 x1], [r_refBytes_10 x1], [r_refBytes_11 x1], [r_refBytes_12 x1], [r_refBytes_13 x1], [r_refBytes_14 x1], [r_refBytes_15 x1], [r_refBytes_16 x2], [r_refBytes_17 x2], [r_refBytes_18 x2], [r_refBytes_19 x2], [r_refBytes_20 x2], [r_refBytes_21 x2], [r_refBytes_22 x2], [r_refBytes_23 x2], [r_refBytes_24 x3], [r_refBytes_25 x3], [r_refBytes_26 x3], [r_refBytes_27 x3], [r_refBytes_28 x3], [r_refBytes_29 x3], [r_refBytes_30 x3], [r_refBytes_31 x3], [r_refBytes_32 x4], [r_refBytes_33 x4], [r_refBytes_34 x4], [r_refBytes_35 x4], [r_refBytes_36 x4], [r_refBytes_37 x4], [r_refBytes_38 x4], [r_refBytes_39 x4], [r_refBytes_40 x5], [r_refBytes_41 x5], [r_refBytes_42 x5], [r_refBytes_43 x5], [r_refBytes_44 x5], [r_refBytes_45 x5], [r_refBytes_46 x5], [r_refBytes_47 x5], [r_refBytes_48 x6], [r_refBytes_49 x6], [r_refBytes_50 x6], [r_refBytes_51 x6], [r_refBytes_52 x6], [r_refBytes_53 x6], [r_refBytes_54 x6], [r_refBytes_55 x6]]) then (x4)
  else 0
def r_refSeal_5 (x0 : Int) (x1 : Int) (x2 : Int) (x3 : Int) (x4 : Int) (x5 : Int) (x6 : Int) : Int :=
  bif ok_refSum (56 : Nat) (rowsF [[r_refBytes_0 x0], [r_refBytes_1 x0], [r_refBytes_2 x0], [r_refBytes_3 x0], [r_refBytes_4 x0], [r_refBytes_5 x0], [r_refBytes_6 x0], [r_refBytes_7 x0], [r_refBytes_8 x1], [r_refBytes_9 x1], [r_refBytes_10 x1], [r_refBytes_11 x1], [r_refBytes_12 x1], [r_refBytes_13 x1], [r_refBytes_14 x1], [r_refBytes_15 x1], [r_refBytes_16 x2], [r_refBytes_17 x2], [r_refBytes_18 x2], [r_refBytes_19 x2], [r_refBytes_20 x2], [r_refBytes_21 x2], [r_refBytes_22 x2], [r_refBytes_23 x2], [r_refBytes_24 x3], [r_refBytes_25 x3], [r_refBytes_26 x3], [r_refBytes_27 x3], [r_refBytes_28 x3], [r_refBytes_29 x3], [r_refBytes_30 x3], [r_refBytes_31 x3], [r_refBytes_32 x4], [r_refBytes_33 x4], [r_refBytes_34 x4], [r_refBytes_35 x4], [r_refBytes_36 x4], [r_refBytes_37 x4], [r_refBytes_38 x4], [r_refBytes_39 x4], [r_refBytes_40 x5], [r_refBytes_41 x5], [r_refBytes_42 x5], [r_refBytes_43 x5], [r_refBytes_44 x5], [r_refBytes_45 x5], [r_refBytes_46 x5], [r_refBytes_47 x5], [r_refBytes_48 x6], [r_refBytes_49 x6], [r_refBytes_50 x6], [r_refBytes_51 x6], [r_refBytes_52 x6], [r_refBytes_53 x6], [r_refBytes_54 x6], [r_refBytes_55 x6]]) then (x5)
  else 0
def r_refSeal_6 (x0 : Int) (x1 : Int) (x2 : Int) (x3 : Int) (x4 : Int) (x5 : Int) (x6 : Int) : Int :=
  bif ok_refSum (56 : Nat) (rowsF [[r_refBytes_0 x0], [r_refBytes_1 x0], [r_refBytes_2 x0], [r_refBytes_3 x0], [r_refBytes_4 x0], [r_refBytes_5 x0], [r_refBytes_6 x0], [r_refBytes_7 x0], [r_refBytes_8 x1], [r_refBytes_9 x1], [r_refBytes_10 x1], [r_refBytes_11 x1], [r_refBytes_12 x1], [r_refBytes_13 x1], [r_refBytes_14 x1], [r_refBytes_15 x1], [r_refBytes_16 x2], [r_refBytes_17 x2], [r_refBytes_18 x2], [r_refBytes_19 x2], [r_refBytes_20 x2], [r_refBytes_21 x2], [r_refBytes_22 x2], [r_refBytes_23 x2], [r_refBytes_24 x3], [r_refBytes_25 x3], [r_refBytes_26 x3], [r_refBytes_27 x3], [r_refBytes_28 x3], [r_refBytes_29 x3], [r_refBytes_30 x3], [r_refBytes_31 x3], [r_refBytes_32 x4], [r_refBytes_33 x4], [r_refBytes_34 x4], [r_refBytes_35 x4], [r_refBytes_36 x4], [r_refBytes_37 x4], [r_refBytes_38 x4], [r_refBytes_39 x4], [r_refBytes_40 x5], [r_refBytes_41 x5], [r_refBytes_42 x5], [r_refBytes_43 x5], [r_refBytes_44 x5], [r_refBytes_45 x5], [r_refBytes_46 x5], [r_refBytes_47 x5], [r_refBytes_48 x6], [r_refBytes_49 x6], [r_refBytes_50 x6], [r_refBytes_51 x6], [r_refBytes_52 x6], [r_refBytes_53 x6], [r_refBytes_54 x6], [r_refBytes_55 x6]]) then (x6)
  else 0
def r_refSeal_7 (x0 : Int) (x1 : Int) (x2 : Int) (x3 : Int) (x4 : Int) (x5 : Int) (x6 : Int) : Int :=
  bif ok_refSum (56 : Nat) (rowsF [[r_refBytes_0 x0], [r_refBytes_1 x0], [r_refBytes_2 x0], [r_refBytes_3 x0], [r_refBytes_4 x0], [r_refBytes_5 x0], [r_refBytes_6 x0], [r_refBytes_7 x0], [r_refBytes_8 x1], [r_refBytes_9 x1], [r_refBytes_10 x1], [r_refBytes_11 x1], [r_refBytes_12 x1], [r_refBytes_13 x1], [r_refBytes_14 x1], [r_refBytes_15 x1], [r_refBytes_16 x2], [r_refBytes_17 x2], [r_refBytes_18 x2], [r_refBytes_19 x2], [r_refBytes_20 x2], [r_refBytes_21 x2], [r_refBytes_22 x2], [r_refBytes_23 x2], [r_refBytes_24 x3], [r_refBytes_25 x3], [r_refBytes_26 x3], [r_refBytes_27 x3], [r_refBytes_28 x3], [r_refBytes_29 x3], [r_refBytes_30 x3], [r_refBytes_31 x3], [r_refBytes_32 x4], [r_refBytes_33 x4], [r_refBytes_34 x4], [r_refBytes_35 x4], [r_refBytes_36 x4], [r_refBytes_37 x4], [r_refBytes_38 x4], [r_refBytes_39 x4], [r_refBytes_40 x5], [r_refBytes_41 x5], [r_refBytes_42 x5], [r_refBytes_43 x5], [r_refBytes_44 x5], [r_refBytes_45 x5], [r_refBytes_46 x5], [r_refBytes_47 x5], [r_refBytes_48 x6], [r_refBytes_49 x6], [r_refBytes_50 x6], [r_refBytes_51 x6], [r_refBytes_52 x6], [r_refBytes_53 x6], [r_refBytes_54 x6], [r_refBytes_55 x6]]) then (bits BinOp.or IntKind.u64 (IntKind.wrap IntKind.u64 (r_refSum_0 (56 : Nat) (rowsF [[r_refBytes_0 x0], [r_refBytes_1 x0], [r_refBytes_2 x0], [r_refBytes_3 x0], [r_refBytes_4 x0], [r_refBytes_5 x0], [r_refBytes_6 x0], [r_refBytes_7 x0], [r_refBytes_8 x1], [r_refBytes_9 x1], [r_refBytes_10 x1], [r_refBytes_11 x1], [r_refBytes_12 x1], [r_refBytes_13 x1], [r_refBytes_14 x1], [r_refBytes_15 x1], [r_refBytes_16 x2], [r_refBytes_17 x2], [r_refBytes_18 x2], [r_refBytes_19 x2], [r_refBytes_20 x2], [r_refBytes_21 x2], [r_refBytes_22 x2], [r_refBytes_23 x2], [r_refBytes_24 x3], [r_refBytes_25 x3], [r_refBytes_26 x3], [r_refBytes_27 x3], [r_refBytes_28 x3], [r_refBytes_29 x3], [r_refBytes_30 x3], [r_refBytes_31 x3], [r_refBytes_32 x4], [r_refBytes_33 x4], [r_refBytes_34 x4], [r_refBytes_35 x4], [r_refBytes_36 x4], [r_refBytes_37 x4], [r_refBytes_38 x4], [r_refBytes_39 x4], [r_refBytes_40 x5], [r_refBytes_41 x5], [r_refBytes_42 x5], [r_refBytes_43 x5], [r_refBytes_44 x5], [r_refBytes_45 x5], [r_refBytes_46 x5], [r_refBytes_47 x5], [r_refBytes_48 x6], [r_refBytes_49 x6], [r_refBytes_50 x6], [r_refBytes_51 x6], [r_refBytes_52 x6], [r_refBytes_53 x6], [r_refBytes_54 x6], [r_refBytes_55 x6]]))) (4294967296 : Int))
  else 0
def ok_refSeal (x0 : Int) (x1 : Int) (x2 : Int) (x3 : Int) (x4 : Int) (x5 : Int) (x6 : Int) (x7 : Int) : Bool :=
  bif ok_refSum (56 : Nat) (rowsF [[r_refBytes_0 x0], [r_refBytes_1 x0], [r_refBytes_2 x0], [r_refBytes_3 x0], [r_refBytes_4 x0], [r_refBytes_5 x0], [r_refBytes_6 x0], [r_refBytes_7 x0], [r_refBytes_8 x1], [r_refBytes_9 x1], [r_refBytes_10 x1], [r_refBytes_11 x1], [r_refBytes_12 x1], [r_refBytes_13 x1], [r_refBytes_14 x1], [r_refBytes_15 x1], [r_refBytes_16 x2], [r_refBytes_17 x2], [r_refBytes_18 x2], [r_refBytes_19 x2], [r_refBytes_20 x2], [r_refBytes_21 x2], [r_refBytes_22 x2], [r_refBytes_23 x2], [r_refBytes_24 x3], [r_refBytes_25 x3], [r_refBytes_26 x3], [r_refBytes_27 x3], [r_refBytes_28 x3], [r_refBytes_29 x3], [r_refBytes_30 x3], [r_refBytes_31 x3], [r_refBytes_32 x4], [r_refBytes_33 x4], [r_refBytes_34 x4], [r_refBytes_35 x4], [r_refBytes_36 x4], [r_refBytes_37 x4], [r_refBytes_38 x4], [r_refBytes_39 x4], [r_refBytes_40 x5], [r_refBytes_41 x5], [r_refBytes_42 x5], [r_refBytes_43 x5], [r_refBytes_44 x5], [r_refBytes_45 x5], [r_refBytes_46 x5], [r_refBytes_47 x5], [r_refBytes_48 x6], [r_refBytes_49 x6], [r_refBytes_50 x6], [r_refBytes_51 x6], [r_refBytes_52 x6], [r_refBytes_53 x6], [r_refBytes_54 x6], [r_refBytes_55 x6]]) then (true)
  else false
def F_refSeal : List At → Tr (List At) := fun l => .br 0 (ok_refSeal (aI l 0) (aI l 1) (aI l 2) (aI l 3) (aI l 4) (aI l 5) (aI l 6) (aI l 7)) (.ok [.i (r_refSeal_0 (aI l 0) (aI l 1) (aI l 2) (aI l 3) (aI l 4) (aI l 5) (aI l 6)), .i (r_refSeal_1 (aI l 0) (aI l 1) (aI l 2) (aI l 3) (aI l 4) (aI l 5) (aI l 6)), .i (r_refSeal_2 (aI l 0) (aI l 1) (aI l 2) (aI l 3) (aI l 4) (aI l 5) (aI l 6)), .i (r_refSeal_3 (aI l 0) (aI l 1) (aI l 2) (aI l 3) (aI l 4) (aI l 5) (aI l 6)), .i (r_refSeal_4 (aI l 0) (aI l 1) (aI l 2) (aI l 3) (aI l 4) (aI l 5) (aI l 6)), .i (r_refSeal_5 (aI l 0) (aI l 1) (aI l 2) (aI l 3) (aI l 4) (aI l 5) (aI l 6)), .i (r_refSeal_6 (aI l 0) (aI l 1) (aI l 2) (aI l 3) (aI l 4) (aI l 5) (aI l 6)), .i (r_refSeal_7 (aI l 0) (aI l 1) (aI l 2) (aI l 3) (aI l 4) (aI l 5) (aI l 6))]) .no
theorem s_refSeal : SpecF Try.prog 34 (.pure (locP ish_refSeal osh_refSeal F_refSeal)) :=
  spec_locP (sy := y_refSeal) (fuel := 100) (Lp := noLoops) o_crcSeal mixed ⟨Try.func34, by kernel_rfl, by kernel_rfl⟩ ish_refSeal osh_refSeal rfl (noLoops_ok _) (hT_merged [.i, .i, .i, .i, .i, .i, .i, .i] e_refSeal (fun l => by kernel_rfl) (fun l => by kernel_rfl))
def Γ_refSeal : Specs := upd Γ_crcSeal 34 (.pure (locP ish_refSeal osh_refSeal F_refSeal))
theorem o_refSeal : SpecOK Try.prog Γ_refSeal := SpecOK.upd o_crcSeal s_refSeal

/-! ### crcGood -/

def ish_crcGood : FSh := ⟨[.v true [.k (.n .u64), .k (.n .u64), .k (.n .u64), .k (.n .u64), .k (.n .u64), .k (.n .u64), .k (.n .u64), .k (.n .u64)]], []⟩
def osh_crcGood : FSh := ⟨[.v false [.k .b]], []⟩
def T_crcGood (x0 : Int) (x1 : Int) (x2 : Int) (x3 : Int) (x4 : Int) (x5 : Int) (x6 : Int) (x7 : Int) : Tr (List At) :=
 .br 0 (ok_crcSeal x0 x1 x2 x3 x4 x5 x6 x7)
 (.ok [(.b (x0 == r_crcSeal_0 x0 x1 x2 x3 x4 x5 x6 && (x1 == r_crcSeal_1 x0 x1 x2 x3 x4 x5 x6 && (x2 == r_crcSeal_2 x0 x1 x2 x3 x4 x5 x6 && (x3 == r_crcSeal_3 x0 x1 x2 x3 x4 x5 x6 && (x4 == r_crcSeal_4 x0 x1 x2 x3 x4 x5 x6 && (x5 == r_crcSeal_5 x0 x1 x2 x3 x4 x5 x6 && (x6 == r_crcSeal_6 x0 x1 x2 x3 x4 x5 x6 && (x7 == r_crcSeal_7 x0 x1 x2 x3 x4 x5 x6 && true)))))))))])
 (.no)
def y_crcGood : Nat → Option Nat := syOf3 [] [] []
def TL_crcGood (l : List At) : Tr (List At) := T_crcGood (aI l 0) (aI l 1) (aI l 2) (aI l 3) (aI l 4) (aI l 5) (aI l 6) (aI l 7)
theorem e_crcGood (l : List At) : (call Try.prog Γ_refSeal y_crcGood noLoops 100 Try.f17 (mkV ish_crcGood l) (mkH ish_crcGood l)).bind (leafO 0 osh_crcGood) = TL_crcGood l := by kernel_rfl
def r_crcGood_0 (x0 : Int) (x1 : Int) (x2 : Int) (x3 : Int) (x4 : Int) (x5 : Int) (x6 : Int) (x7 : Int) : Bool :=
  bif ok_crcSeal x0 x1 x2 x3 x4 x5 x6 x7 then (x0 == r_crcSeal_0 x0 x1 x2 x3 x4 x5 x6 && (x1 == r_crcSeal_1 x0 x1 x2 x3 x4 x5 x6 && (x2 == r_crcSeal_2 x0 x1 x2 x3 x4 x5 x6 && (x3 == r_crcSeal_3 x0 x1 x2 x3 x4 x5 x6 && (x4 == r_crcSeal_4 x0 x1 x2 x3 x4 x5 x6 && (x5 == r_crcSeal_5 x0 x1 x2 x3 x4 x5 x6 && (x6 == r_crcSeal_6 x0 x1 x2 x3 x4 x5 x6 && (x7 == r_crcSeal_7 x0 x1 x2 x3 x4 x5 x6 && true))))))))
  else false
def ok_crcGood (x0 : Int) (x1 : Int) (x2 : Int) (x3 : Int) (x4 : Int) (x5 : Int) (x6 : Int) (x7 : Int) : Bool :=
  bif ok_crcSeal x0 x1 x2 x3 x4 x5 x6 x7 then (true)
  else false
def F_crcGood : List At → Tr (List At) := fun l => .br 0 (ok_crcGood (aI l 0) (aI l 1) (aI l 2) (aI l 3) (aI l 4) (aI l 5) (aI l 6) (aI l 7)) (.ok [.b (r_crcGood_0 (aI l 0) (aI l 1) (aI l 2) (aI l 3) (aI l 4) (aI l 5) (aI l 6) (aI l 7))]) .no
theorem s_crcGood : SpecF Try.prog 17 (.pure (locP ish_crcGood osh_crcGood F_crcGood)) :=
  spec_locP (sy := y_crcGood) (fuel := 100) (Lp := noLoops) o_refSeal mixed ⟨Try.func17, by kernel_rfl, by kernel_rfl⟩ ish_crcGood osh_crcGood rfl (noLoops_ok _) (hT_merged [.b] e_crcGood (fun l => by kernel_rfl) (fun l => by kernel_rfl))
def Γ_crcGood : Specs := upd Γ_refSeal 17 (.pure (locP ish_crcGood osh_crcGood F_crcGood))
theorem o_crcGood : SpecOK Try.prog Γ_crcGood := SpecOK.upd o_refSeal s_crcGood

end Go.Proofs.Ytgmhggipaopoiaa.G
end

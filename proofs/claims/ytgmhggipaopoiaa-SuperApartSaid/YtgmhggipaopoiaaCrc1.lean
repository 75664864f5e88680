/-
  What functions of the seat compute, printed by a program from the explorer.
-/
import Derived.Test.YtgmhggipaopoiaaRows
import Derived.Test.YtgmhggipaopoiaaAn9
import Derived.KernelRfl
namespace Go.Proofs.Ytgmhggipaopoiaa.G
open Go Go.AM Go.Proofs
theorem mixed : Try.prog.follows .mixedOrders = true := by kernel_rfl
/-! ### wordBytes -/

def ish_wordBytes : FSh := ⟨[.v true [.k (.n .u64), .k (.n .u64), .k (.n .u64), .k (.n .u64), .k (.n .u64), .k (.n .u64), .k (.n .u64), .k (.n .u64)]], []⟩
def osh_wordBytes : FSh := ⟨[.v true [.k (.n .u8), .k (.n .u8), .k (.n .u8), .k (.n .u8), .k (.n .u8), .k (.n .u8), .k (.n .u8), .k (.n .u8), .k (.n .u8), .k (.n .u8), .k (.n .u8), .k (.n .u8), .k (.n .u8), .k (.n .u8), .k (.n .u8), .k (.n .u8), .k (.n .u8), .k (.n .u8), .k (.n .u8), .k (.n .u8), .k (.n .u8), .k (.n .u8), .k (.n .u8), .k (.n .u8), .k (.n .u8), .k (.n .u8), .k (.n .u8), .k (.n .u8), .k (.n .u8), .k (.n .u8), .k (.n .u8), .k (.n .u8), .k (.n .u8), .k (.n .u8), .k (.n .u8), .k (.n .u8), .k (.n .u8), .k (.n .u8), .k (.n .u8), .k (.n .u8), .k (.n .u8), .k (.n .u8), .k (.n .u8), .k (.n .u8), .k (.n .u8), .k (.n .u8), .k (.n .u8), .k (.n .u8), .k (.n .u8), .k (.n .u8), .k (.n .u8), .k (.n .u8), .k (.n .u8), .k (.n .u8), .k (.n .u8), .k (.n .u8), .k (.n .u8), .k (.n .u8), .k (.n .u8), .k (.n .u8), .k (.n .u8), .k (.n .u8), .k (.n .u8), .k (.n .u8)]], []⟩
def T_wordBytes (x0 : Int) (x1 : Int) (x2 : Int) (x3 : Int) (x4 : Int) (x5 : Int) (x6 : Int) (x7 : Int) : Tr (List At) :=
 .ok [(.i (IntKind.wrap IntKind.u8 (Int.fdiv x0 (1 : Int)))), (.i (IntKind.wrap IntKind.u8 (Int.fdiv x0 (256 : Int)))), (.i (IntKind.wrap IntKind.u8 (Int.fdiv x0 (65536 : Int)))), (.i (IntKind.wrap IntKind.u8 (Int.fdiv x0 (16777216 : Int)))), (.i (IntKind.wrap IntKind.u8 (Int.fdiv x0 (4294967296 : Int)))), (.i (IntKind.wrap IntKind.u8 (Int.fdiv x0 (1099511627776 : Int)))), (.i (IntKind.wrap IntKind.u8 (Int.fdiv x0 (281474976710656 : Int)))), (.i (IntKind.wrap IntKind.u8 (Int.fdiv x0 (72057594037927936 : Int)))), (.i (IntKind.wrap IntKind.u8 (Int.fdiv x1 (1 : Int)))), (.i (IntKind.wrap IntKind.u8 (Int.fdiv x1 (256 : Int)))), (.i (IntKind.wrap IntKind.u8 (Int.fdiv x1 (65536 : Int)))), (.i (IntKind.wrap IntKind.u8 (Int.fdiv x1 (16777216 : Int)))), (.i (IntKind.wrap IntKind.u8 (Int.fdiv x1 (4294967296 : Int)))), (.i (IntKind.wrap IntKind.u8 (Int.fdiv x1 (1099511627776 : Int)))), (.i (IntKind.wrap IntKind.u8 (Int.fdiv x1 (281474976710656 : Int)))), (.i (IntKind.wrap IntKind.u8 (Int.fdiv x1 (72057594037927936 : Int)))), (.i (IntKind.wrap IntKind.u8 (Int.fdiv x2 (1 : Int)))), (.i (IntKind.wrap IntKind.u8 (Int.fdiv x2 (256 : Int)))), (.i (IntKind.wrap IntKind.u8 (Int.fdiv x2 (65536 : Int)))), (.i (IntKind.wrap IntKind.u8 (Int.fdiv x2 (16777216 : Int)))), (.i (IntKind.wrap IntKind.u8 (Int.fdiv x2 (4294967296 : Int)))), (.i (IntKind.wrap IntKind.u8 (Int.fdiv x2 (1099511627776 : Int)))), (.i (IntKind.wrap IntKind.u8 (Int.fdiv x2 (281474976710656 : Int)))), (.i (IntKind.wrap IntKind.u8 (Int.fdiv x2 (72057594037927936 : Int)))), (.i (IntKind.wrap IntKind.u8 (Int.fdiv x3 (1 : Int)))), (.i (IntKind.wrap IntKind.u8 (Int.fdiv x3 (256 : Int)))), (.i (IntKind.wrap IntKind.u8 (Int.fdiv x3 (65536 : Int)))), (.i (IntKind.wrap IntKind.u8 (Int.fdiv x3 (16777216 : Int)))), (.i (IntKind.wrap IntKind.u8 (Int.fdiv x3 (4294967296 : Int)))), (.i (IntKind.wrap IntKind.u8 (Int.fdiv x3 (1099511627776 : Int)))), (.i (IntKind.wrap IntKind.u8 (Int.fdiv x3 (281474976710656 : Int)))), (.i (IntKind.wrap IntKind.u8 (Int.fdiv x3 (72057594037927936 : Int)))), (.i (IntKind.wrap IntKind.u8 (Int.fdiv x4 (1 : Int)))), (.i (IntKind.wrap IntKind.u8 (Int.fdiv x4 (256 : Int)))), (.i (IntKind.wrap IntKind.u8 (Int.fdiv x4 (65536 : Int)))), (.i (IntKind.wrap IntKind.u8 (Int.fdiv x4 (16777216 : Int)))), (.i (IntKind.wrap IntKind.u8 (Int.fdiv x4 (4294967296 : Int)))), (.i (IntKind.wrap IntKind.u8 (Int.fdiv x4 (1099511627776 : Int)))), (.i (IntKind.wrap IntKind.u8 (Int.fdiv x4 (281474976710656 : Int)))), (.i (IntKind.wrap IntKind.u8 (Int.fdiv x4 (72057594037927936 : Int)))), (.i (IntKind.wrap IntKind.u8 (Int.fdiv x5 (1 : Int)))), (.i (IntKind.wrap IntKind.u8 (Int.fdiv x5 (256 : Int)))), (.i (IntKind.wrap IntKind.u8 (Int.fdiv x5 (65536 : Int)))), (.i (IntKind.wrap IntKind.u8 (Int.fdiv x5 (16777216 : Int)))), (.i (IntKind.wrap IntKind.u8 (Int.fdiv x5 (4294967296 : Int)))), (.i (IntKind.wrap IntKind.u8 (Int.fdiv x5 (1099511627776 : Int)))), (.i (IntKind.wrap IntKind.u8 (Int.fdiv x5 (281474976710656 : Int)))), (.i (IntKind.wrap IntKind.u8 (Int.fdiv x5 (72057594037927936 : Int)))), (.i (IntKind.wrap IntKind.u8 (Int.fdiv x6 (1 : Int)))), (.i (IntKind.wrap IntKind.u8 (Int.fdiv x6 (256 : Int)))), (.i (IntKind.wrap IntKind.u8 (Int.fdiv x6 (65536 : Int)))), (.i (IntKind.wrap IntKind.u8 (Int.fdiv x6 (16777216 : Int)))), (.i (IntKind.wrap IntKind.u8 (Int.fdiv x6 (4294967296 : Int)))), (.i (IntKind.wrap IntKind.u8 (Int.fdiv x6 (1099511627776 : Int)))), (.i (IntKind.wrap IntKind.u8 (Int.fdiv x6 (281474976710656 : Int)))), (.i (IntKind.wrap IntKind.u8 (Int.fdiv x6 (72057594037927936 : Int)))), (.i (IntKind.wrap IntKind.u8 (Int.fdiv x7 (1 : Int)))), (.i (IntKind.wrap IntKind.u8 (Int.fdiv x7 (256 : Int)))), (.i (IntKind.wrap IntKind.u8 (Int.fdiv x7 (65536 : Int)))), (.i (IntKind.wrap IntKind.u8 (Int.fdiv x7 (16777216 : Int)))), (.i (IntKind.wrap IntKind.u8 (Int.fdiv x7 (4294967296 : Int)))), (.i (IntKind.wrap IntKind.u8 (Int.fdiv x7 (1099511627776 : Int)))), (.i (IntKind.wrap IntKind.u8 (Int.fdiv x7 (281474976710656 : Int)))), (.i (IntKind.wrap IntKind.u8 (Int.fdiv x7 (72057594037927936 : Int))))]
def y_wordBytes : Nat → Option Nat := syOf3 [] [] []
def TL_wordBytes (l : List At) : Tr (List At) := T_wordBytes (aI l 0) (aI l 1) (aI l 2) (aI l 3) (aI l 4) (aI l 5) (aI l 6) (aI l 7)
theorem e_wordBytes (l : List At) : (call Try.prog noSpecs y_wordBytes noLoops 100 Try.f18 (mkV ish_wordBytes l) (mkH ish_wordBytes l)).bind (leafO 0 osh_wordBytes) = TL_wordBytes l := by kernel_rfl
def r_wordBytes_0 (x0 : Int) : Int :=
  IntKind.wrap IntKind.u8 (Int.fdiv x0 (1 : Int))
def r_wordBytes_1 (x0 : Int) : Int :=
  IntKind.wrap IntKind.u8 (Int.fdiv x0 (256 : Int))
def r_wordBytes_2 (x0 : Int) : Int :=
  IntKind.wrap IntKind.u8 (Int.fdiv x0 (65536 : Int))
def r_wordBytes_3 (x0 : Int) : Int :=
  IntKind.wrap IntKind.u8 (Int.fdiv x0 (16777216 : Int))
def r_wordBytes_4 (x0 : Int) : Int :=
  IntKind.wrap IntKind.u8 (Int.fdiv x0 (4294967296 : Int))
def r_wordBytes_5 (x0 : Int) : Int :=
  IntKind.wrap IntKind.u8 (Int.fdiv x0 (1099511627776 : Int))
def r_wordBytes_6 (x0 : Int) : Int :=
  IntKind.wrap IntKind.u8 (Int.fdiv x0 (281474976710656 : Int))
def r_wordBytes_7 (x0 : Int) : Int :=
  IntKind.wrap IntKind.u8 (Int.fdiv x0 (72057594037927936 : Int))
def r_wordBytes_8 (x1 : Int) : Int :=
  IntKind.wrap IntKind.u8 (Int.fdiv x1 (1 : Int))
def r_wordBytes_9 (x1 : Int) : Int :=
  IntKind.wrap IntKind.u8 (Int.fdiv x1 (256 : Int))
def r_wordBytes_10 (x1 : Int) : Int :=
  IntKind.wrap IntKind.u8 (Int.fdiv x1 (65536 : Int))
def r_wordBytes_11 (x1 : Int) : Int :=
  IntKind.wrap IntKind.u8 (Int.fdiv x1 (16777216 : Int))
def r_wordBytes_12 (x1 : Int) : Int :=
  IntKind.wrap IntKind.u8 (Int.fdiv x1 (4294967296 : Int))
def r_wordBytes_13 (x1 : Int) : Int :=
  IntKind.wrap IntKind.u8 (Int.fdiv x1 (1099511627776 : Int))
def r_wordBytes_14 (x1 : Int) : Int :=
  IntKind.wrap IntKind.u8 (Int.fdiv x1 (281474976710656 : Int))
def r_wordBytes_15 (x1 : Int) : Int :=
  IntKind.wrap IntKind.u8 (Int.fdiv x1 (72057594037927936 : Int))
def r_wordBytes_16 (x2 : Int) : Int :=
  IntKind.wrap IntKind.u8 (Int.fdiv x2 (1 : Int))
def r_wordBytes_17 (x2 : Int) : Int :=
  IntKind.wrap IntKind.u8 (Int.fdiv x2 (256 : Int))
def r_wordBytes_18 (x2 : Int) : Int :=
  IntKind.wrap IntKind.u8 (Int.fdiv x2 (65536 : Int))
def r_wordBytes_19 (x2 : Int) : Int :=
  IntKind.wrap IntKind.u8 (Int.fdiv x2 (16777216 : Int))
def r_wordBytes_20 (x2 : Int) : Int :=
  IntKind.wrap IntKind.u8 (Int.fdiv x2 (4294967296 : Int))
def r_wordBytes_21 (x2 : Int) : Int :=
  IntKind.wrap IntKind.u8 (Int.fdiv x2 (1099511627776 : Int))
def r_wordBytes_22 (x2 : Int) : Int :=
  IntKind.wrap IntKind.u8 (Int.fdiv x2 (281474976710656 : Int))
def r_wordBytes_23 (x2 : Int) : Int :=
  IntKind.wrap IntKind.u8 (Int.fdiv x2 (72057594037927936 : Int))
def r_wordBytes_24 (x3 : Int) : Int :=
  IntKind.wrap IntKind.u8 (Int.fdiv x3 (1 : Int))
def r_wordBytes_25 (x3 : Int) : Int :=
  IntKind.wrap IntKind.u8 (Int.fdiv x3 (256 : Int))
def r_wordBytes_26 (x3 : Int) : Int :=
  IntKind.wrap IntKind.u8 (Int.fdiv x3 (65536 : Int))
def r_wordBytes_27 (x3 : Int) : Int :=
  IntKind.wrap IntKind.u8 (Int.fdiv x3 (16777216 : Int))
def r_wordBytes_28 (x3 : Int) : Int :=
  IntKind.wrap IntKind.u8 (Int.fdiv x3 (4294967296 : Int))
def r_wordBytes_29 (x3 : Int) : Int :=
  IntKind.wrap IntKind.u8 (Int.fdiv x3 (1099511627776 : Int))
def r_wordBytes_30 (x3 : Int) : Int :=
  IntKind.wrap IntKind.u8 (Int.fdiv x3 (281474976710656 : Int))
def r_wordBytes_31 (x3 : Int) : Int :=
  IntKind.wrap IntKind.u8 (Int.fdiv x3 (72057594037927936 : Int))
def r_wordBytes_32 (x4 : Int) : Int :=
  IntKind.wrap IntKind.u8 (Int.fdiv x4 (1 : Int))
def r_wordBytes_33 (x4 : Int) : Int :=
  IntKind.wrap IntKind.u8 (Int.fdiv x4 (256 : Int))
def r_wordBytes_34 (x4 : Int) : Int :=
  IntKind.wrap IntKind.u8 (Int.fdiv x4 (65536 : Int))
def r_wordBytes_35 (x4 : Int) : Int :=
  IntKind.wrap IntKind.u8 (Int.fdiv x4 (16777216 : Int))
def r_wordBytes_36 (x4 : Int) : Int :=
  IntKind.wrap IntKind.u8 (Int.fdiv x4 (4294967296 : Int))
def r_wordBytes_37 (x4 : Int) : Int :=
  IntKind.wrap IntKind.u8 (Int.fdiv x4 (1099511627776 : Int))
def r_wordBytes_38 (x4 : Int) : Int :=
  IntKind.wrap IntKind.u8 (Int.fdiv x4 (281474976710656 : Int))
def r_wordBytes_39 (x4 : Int) : Int :=
  IntKind.wrap IntKind.u8 (Int.fdiv x4 (72057594037927936 : Int))
def r_wordBytes_40 (x5 : Int) : Int :=
  IntKind.wrap IntKind.u8 (Int.fdiv x5 (1 : Int))
def r_wordBytes_41 (x5 : Int) : Int :=
  IntKind.wrap IntKind.u8 (Int.fdiv x5 (256 : Int))
def r_wordBytes_42 (x5 : Int) : Int :=
  IntKind.wrap IntKind.u8 (Int.fdiv x5 (65536 : Int))
def r_wordBytes_43 (x5 : Int) : Int :=
  IntKind.wrap IntKind.u8 (Int.fdiv x5 (16777216 : Int))
def r_wordBytes_44 (x5 : Int) : Int :=
  IntKind.wrap IntKind.u8 (Int.fdiv x5 (4294967296 : Int))
def r_wordBytes_45 (x5 : Int) : Int :=
  IntKind.wrap IntKind.u8 (Int.fdiv x5 (1099511627776 : Int))
def r_wordBytes_46 (x5 : Int) : Int :=
  IntKind.wrap IntKind.u8 (Int.fdiv x5 (281474976710656 : Int))
def r_wordBytes_47 (x5 : Int) : Int :=
  IntKind.wrap IntKind.u8 (Int.fdiv x5 (72057594037927936 : Int))
def r_wordBytes_48 (x6 : Int) : Int :=
  IntKind.wrap IntKind.u8 (Int.fdiv x6 (1 : Int))
def r_wordBytes_49 (x6 : Int) : Int :=
  IntKind.wrap IntKind.u8 (Int.fdiv x6 (256 : Int))
def r_wordBytes_50 (x6 : Int) : Int :=
  IntKind.wrap IntKind.u8 (Int.fdiv x6 (65536 : Int))
def r_wordBytes_51 (x6 : Int) : Int :=
  IntKind.wrap IntKind.u8 (Int.fdiv x6 (16777216 : Int))
def r_wordBytes_52 (x6 : Int) : Int :=
  IntKind.wrap IntKind.u8 (Int.fdiv x6 (4294967296 : Int))
def r_wordBytes_53 (x6 : Int) : Int :=
  IntKind.wrap IntKind.u8 (Int.fdiv x6 (1099511627776 : Int))
def r_wordBytes_54 (x6 : Int) : Int :=
  IntKind.wrap IntKind.u8 (Int.fdiv x6 (281474976710656 : Int))
def r_wordBytes_55 (x6 : Int) : Int :=
  IntKind.wrap IntKind.u8 (Int.fdiv x6 (72057594037927936 : Int))
def r_wordBytes_56 (x7 : Int) : Int :=
  IntKind.wrap IntKind.u8 (Int.fdiv x7 (1 : Int))
def r_wordBytes_57 (x7 : Int) : Int :=
  IntKind.wrap IntKind.u8 (Int.fdiv x7 (256 : Int))
def r_wordBytes_58 (x7 : Int) : Int :=
  IntKind.wrap IntKind.u8 (Int.fdiv x7 (65536 : Int))
def r_wordBytes_59 (x7 : Int) : Int :=
  IntKind.wrap IntKind.u8 (Int.fdiv x7 (16777216 : Int))
def r_wordBytes_60 (x7 : Int) : Int :=
  IntKind.wrap IntKind.u8 (Int.fdiv x7 (4294967296 : Int))
def r_wordBytes_61 (x7 : Int) : Int :=
  IntKind.wrap IntKind.u8 (Int.fdiv x7 (1099511627776 : Int))
def r_wordBytes_62 (x7 : Int) : Int :=
  IntKind.wrap IntKind.u8 (Int.fdiv x7 (281474976710656 : Int))
def r_wordBytes_63 (x7 : Int) : Int :=
  IntKind.wrap IntKind.u8 (Int.fdiv x7 (72057594037927936 : Int))
def F_wordBytes : List At → Tr (List At) := fun l => .ok [.i (r_wordBytes_0 (aI l 0)), .i (r_wordBytes_1 (aI l 0)), .i (r_wordBytes_2 (aI l 0)), .i (r_wordBytes_3 (aI l 0)), .i (r_wordBytes_4 (aI l 0)), .i (r_wordBytes_5 (aI l 0)), .i (r_wordBytes_6 (aI l 0)), .i (r_wordBytes_7 (aI l 0)), .i (r_wordBytes_8 (aI l 1)), .i (r_wordBytes_9 (aI l 1)), .i (r_wordBytes_10 (aI l 1)), .i (r_wordBytes_11 (aI l 1)), .i (r_wordBytes_12 (aI l 1)), .i (r_wordBytes_13 (aI l 1)), .i (r_wordBytes_14 (aI l 1)), .i (r_wordBytes_15 (aI l 1)), .i (r_wordBytes_16 (aI l 2)), .i (r_wordBytes_17 (aI l 2)), .i (r_wordBytes_18 (aI l 2)), .i (r_wordBytes_19 (aI l 2)), .i (r_wordBytes_20 (aI l 2)), .i (r_wordBytes_21 (aI l 2)), .i (r_wordBytes_22 (aI l 2)), .i (r_wordBytes_23 (aI l 2)), .i (r_wordBytes_24 (aI l 3)), .i (r_wordBytes_25 (aI l 3)), .i (r_wordBytes_26 (aI l 3)), .i (r_wordBytes_27 (aI l 3)), .i (r_wordBytes_28 (aI l 3)), .i (r_wordBytes_29 (aI l 3)), .i (r_wordBytes_30 (aI l 3)), .i (r_wordBytes_31 (aI l 3)), .i (r_wordBytes_32 (aI l 4)), .i (r_wordBytes_33 (aI l 4)), .i (r_wordBytes_34 (aI l 4)), .i (r_wordBytes_35 (aI l 4)), .i (r_wordBytes_36 (aI l 4)), .i (r_wordBytes_37 (aI l 4)), .i (r_wordBytes_38 (aI l 4)), .i (r_wordBytes_39 (aI l 4)), .i (r_wordBytes_40 (aI l 5)), .i (r_wordBytes_41 (aI l 5)), .i (r_wordBytes_42 (aI l 5)), .i (r_wordBytes_43 (aI l 5)), .i (r_wordBytes_44 (aI l 5)), .i (r_wordBytes_45 (aI l 5)), .i (r_wordBytes_46 (aI l 5)), .i (r_wordBytes_47 (aI l 5)), .i (r_wordBytes_48 (aI l 6)), .i (r_wordBytes_49 (aI l 6)), .i (r_wordBytes_50 (aI l 6)), .i (r_wordBytes_51 (aI l 6)), .i (r_wordBytes_52 (aI l 6)), .i (r_wordBytes_53 (aI l 6)), .i (r_wordBytes_54 (aI l 6)), .i (r_wordBytes_55 (aI l 6)), .i (r_wordBytes_56 (aI l 7)), .i (r_wordBytes_57 (aI l 7)), .i (r_wordBytes_58 (aI l 7)), .i (r_wordBytes_59 (aI l 7)), .i (r_wordBytes_60 (aI l 7)), .i (r_wordBytes_61 (aI l 7)), .i (r_wordBytes_62 (aI l 7)), .i (r_wordBytes_63 (aI l 7))]
theorem s_wordBytes : SpecF Try.prog 18 (.pure (locP ish_wordBytes osh_wordBytes F_wordBytes)) :=
  spec_locP (sy := y_wordBytes) (fuel := 100) (Lp := noLoops) noSpecs_ok mixed ⟨Try.func18, by kernel_rfl, by kernel_rfl⟩ ish_wordBytes osh_wordBytes rfl (noLoops_ok _) (hT_merged [.i, .i, .i, .i, .i, .i, .i, .i, .i, .i, .i, .i, .i, .i, .i, .i, .i, .i, .i, .i, .i, .i, .i, .i, .i, .i, .i, .i, .i, .i, .i, .i, .i, .i, .i, .i, .i, .i, .i, .i, .i, .i, .i, .i, .i, .i, .i, .i, .i, .i, .i, .i, .i, .i, .i, .i, .i, .i, .i, .i, .i, .i, .i, .i] e_wordBytes (fun l => by kernel_rfl) (fun l => by kernel_rfl))
def Γ_wordBytes : Specs := upd noSpecs 18 (.pure (locP ish_wordBytes osh_wordBytes F_wordBytes))
theorem o_wordBytes : SpecOK Try.prog Γ_wordBytes := SpecOK.upd noSpecs_ok s_wordBytes

/-! ### refBytes -/

def ish_refBytes : FSh := ⟨[.v true [.k (.n .u64), .k (.n .u64), .k (.n .u64), .k (.n .u64), .k (.n .u64), .k (.n .u64), .k (.n .u64), .k (.n .u64)]], []⟩
def osh_refBytes : FSh := ⟨[.v true [.k (.n .u8), .k (.n .u8), .k (.n .u8), .k (.n .u8), .k (.n .u8), .k (.n .u8), .k (.n .u8), .k (.n .u8), .k (.n .u8), .k (.n .u8), .k (.n .u8), .k (.n .u8), .k (.n .u8), .k (.n .u8), .k (.n .u8), .k (.n .u8), .k (.n .u8), .k (.n .u8), .k (.n .u8), .k (.n .u8), .k (.n .u8), .k (.n .u8), .k (.n .u8), .k (.n .u8), .k (.n .u8), .k (.n .u8), .k (.n .u8), .k (.n .u8), .k (.n .u8), .k (.n .u8), .k (.n .u8), .k (.n .u8), .k (.n .u8), .k (.n .u8), .k (.n .u8), .k (.n .u8), .k (.n .u8), .k (.n .u8), .k (.n .u8), .k (.n .u8), .k (.n .u8), .k (.n .u8), .k (.n .u8), .k (.n .u8), .k (.n .u8), .k (.n .u8), .k (.n .u8), .k (.n .u8), .k (.n .u8), .k (.n .u8), .k (.n .u8), .k (.n .u8), .k (.n .u8), .k (.n .u8), .k (.n .u8), .k (.n .u8), .k (.n .u8), .k (.n .u8), .k (.n .u8), .k (.n .u8), .k (.n .u8), .k (.n .u8), .k (.n .u8), .k (.n .u8)]], []⟩
def T_refBytes (x0 : Int) (x1 : Int) (x2 : Int) (x3 : Int) (x4 : Int) (x5 : Int) (x6 : Int) (x7 : Int) : Tr (List At) :=
 .ok [(.i (IntKind.wrap IntKind.u8 (Int.fdiv x0 (1 : Int)))), (.i (IntKind.wrap IntKind.u8 (Int.fdiv x0 (256 : Int)))), (.i (IntKind.wrap IntKind.u8 (Int.fdiv x0 (65536 : Int)))), (.i (IntKind.wrap IntKind.u8 (Int.fdiv x0 (16777216 : Int)))), (.i (IntKind.wrap IntKind.u8 (Int.fdiv x0 (4294967296 : Int)))), (.i (IntKind.wrap IntKind.u8 (Int.fdiv x0 (1099511627776 : Int)))), (.i (IntKind.wrap IntKind.u8 (Int.fdiv x0 (281474976710656 : Int)))), (.i (IntKind.wrap IntKind.u8 (Int.fdiv x0 (72057594037927936 : Int)))), (.i (IntKind.wrap IntKind.u8 (Int.fdiv x1 (1 : Int)))), (.i (IntKind.wrap IntKind.u8 (Int.fdiv x1 (256 : Int)))), (.i (IntKind.wrap IntKind.u8 (Int.fdiv x1 (65536 : Int)))), (.i (IntKind.wrap IntKind.u8 (Int.fdiv x1 (16777216 : Int)))), (.i (IntKind.wrap IntKind.u8 (Int.fdiv x1 (4294967296 : Int)))), (.i (IntKind.wrap IntKind.u8 (Int.fdiv x1 (1099511627776 : Int)))), (.i (IntKind.wrap IntKind.u8 (Int.fdiv x1 (281474976710656 : Int)))), (.i (IntKind.wrap IntKind.u8 (Int.fdiv x1 (72057594037927936 : Int)))), (.i (IntKind.wrap IntKind.u8 (Int.fdiv x2 (1 : Int)))), (.i (IntKind.wrap IntKind.u8 (Int.fdiv x2 (256 : Int)))), (.i (IntKind.wrap IntKind.u8 (Int.fdiv x2 (65536 : Int)))), (.i (IntKind.wrap IntKind.u8 (Int.fdiv x2 (16777216 : Int)))), (.i (IntKind.wrap IntKind.u8 (Int.fdiv x2 (4294967296 : Int)))), (.i (IntKind.wrap IntKind.u8 (Int.fdiv x2 (1099511627776 : Int)))), (.i (IntKind.wrap IntKind.u8 (Int.fdiv x2 (281474976710656 : Int)))), (.i (IntKind.wrap IntKind.u8 (Int.fdiv x2 (72057594037927936 : Int)))), (.i (IntKind.wrap IntKind.u8 (Int.fdiv x3 (1 : Int)))), (.i (IntKind.wrap IntKind.u8 (Int.fdiv x3 (256 : Int)))), (.i (IntKind.wrap IntKind.u8 (Int.fdiv x3 (65536 : Int)))), (.i (IntKind.wrap IntKind.u8 (Int.fdiv x3 (16777216 : Int)))), (.i (IntKind.wrap IntKind.u8 (Int.fdiv x3 (4294967296 : Int)))), (.i (IntKind.wrap IntKind.u8 (Int.fdiv x3 (1099511627776 : Int)))), (.i (IntKind.wrap IntKind.u8 (Int.fdiv x3 (281474976710656 : Int)))), (.i (IntKind.wrap IntKind.u8 (Int.fdiv x3 (72057594037927936 : Int)))), (.i (IntKind.wrap IntKind.u8 (Int.fdiv x4 (1 : Int)))), (.i (IntKind.wrap IntKind.u8 (Int.fdiv x4 (256 : Int)))), (.i (IntKind.wrap IntKind.u8 (Int.fdiv x4 (65536 : Int)))), (.i (IntKind.wrap IntKind.u8 (Int.fdiv x4 (16777216 : Int)))), (.i (IntKind.wrap IntKind.u8 (Int.fdiv x4 (4294967296 : Int)))), (.i (IntKind.wrap IntKind.u8 (Int.fdiv x4 (1099511627776 : Int)))), (.i (IntKind.wrap IntKind.u8 (Int.fdiv x4 (281474976710656 : Int)))), (.i (IntKind.wrap IntKind.u8 (Int.fdiv x4 (72057594037927936 : Int)))), (.i (IntKind.wrap IntKind.u8 (Int.fdiv x5 (1 : Int)))), (.i (IntKind.wrap IntKind.u8 (Int.fdiv x5 (256 : Int)))), (.i (IntKind.wrap IntKind.u8 (Int.fdiv x5 (65536 : Int)))), (.i (IntKind.wrap IntKind.u8 (Int.fdiv x5 (16777216 : Int)))), (.i (IntKind.wrap IntKind.u8 (Int.fdiv x5 (4294967296 : Int)))), (.i (IntKind.wrap IntKind.u8 (Int.fdiv x5 (1099511627776 : Int)))), (.i (IntKind.wrap IntKind.u8 (Int.fdiv x5 (281474976710656 : Int)))), (.i (IntKind.wrap IntKind.u8 (Int.fdiv x5 (72057594037927936 : Int)))), (.i (IntKind.wrap IntKind.u8 (Int.fdiv x6 (1 : Int)))), (.i (IntKind.wrap IntKind.u8 (Int.fdiv x6 (256 : Int)))), (.i (IntKind.wrap IntKind.u8 (Int.fdiv x6 (65536 : Int)))), (.i (IntKind.wrap IntKind.u8 (Int.fdiv x6 (16777216 : Int)))), (.i (IntKind.wrap IntKind.u8 (Int.fdiv x6 (4294967296 : Int)))), (.i (IntKind.wrap IntKind.u8 (Int.fdiv x6 (1099511627776 : Int)))), (.i (IntKind.wrap IntKind.u8 (Int.fdiv x6 (281474976710656 : Int)))), (.i (IntKind.wrap IntKind.u8 (Int.fdiv x6 (72057594037927936 : Int)))), (.i (IntKind.wrap IntKind.u8 (Int.fdiv x7 (1 : Int)))), (.i (IntKind.wrap IntKind.u8 (Int.fdiv x7 (256 : Int)))), (.i (IntKind.wrap IntKind.u8 (Int.fdiv x7 (65536 : Int)))), (.i (IntKind.wrap IntKind.u8 (Int.fdiv x7 (16777216 : Int)))), (.i (IntKind.wrap IntKind.u8 (Int.fdiv x7 (4294967296 : Int)))), (.i (IntKind.wrap IntKind.u8 (Int.fdiv x7 (1099511627776 : Int)))), (.i (IntKind.wrap IntKind.u8 (Int.fdiv x7 (281474976710656 : Int)))), (.i (IntKind.wrap IntKind.u8 (Int.fdiv x7 (72057594037927936 : Int))))]
def y_refBytes : Nat → Option Nat := syOf3 [] [] []
def TL_refBytes (l : List At) : Tr (List At) := T_refBytes (aI l 0) (aI l 1) (aI l 2) (aI l 3) (aI l 4) (aI l 5) (aI l 6) (aI l 7)
theorem e_refBytes (l : List At) : (call Try.prog Γ_wordBytes y_refBytes noLoops 100 Try.f48 (mkV ish_refBytes l) (mkH ish_refBytes l)).bind (leafO 0 osh_refBytes) = TL_refBytes l := by kernel_rfl
def r_refBytes_0 (x0 : Int) : Int :=
  IntKind.wrap IntKind.u8 (Int.fdiv x0 (1 : Int))
def r_refBytes_1 (x0 : Int) : Int :=
  IntKind.wrap IntKind.u8 (Int.fdiv x0 (256 : Int))
def r_refBytes_2 (x0 : Int) : Int :=
  IntKind.wrap IntKind.u8 (Int.fdiv x0 (65536 : Int))
def r_refBytes_3 (x0 : Int) : Int :=
  IntKind.wrap IntKind.u8 (Int.fdiv x0 (16777216 : Int))
def r_refBytes_4 (x0 : Int) : Int :=
  IntKind.wrap IntKind.u8 (Int.fdiv x0 (4294967296 : Int))
def r_refBytes_5 (x0 : Int) : Int :=
  IntKind.wrap IntKind.u8 (Int.fdiv x0 (1099511627776 : Int))
def r_refBytes_6 (x0 : Int) : Int :=
  IntKind.wrap IntKind.u8 (Int.fdiv x0 (281474976710656 : Int))
def r_refBytes_7 (x0 : Int) : Int :=
  IntKind.wrap IntKind.u8 (Int.fdiv x0 (72057594037927936 : Int))
def r_refBytes_8 (x1 : Int) : Int :=
  IntKind.wrap IntKind.u8 (Int.fdiv x1 (1 : Int))
def r_refBytes_9 (x1 : Int) : Int :=
  IntKind.wrap IntKind.u8 (Int.fdiv x1 (256 : Int))
def r_refBytes_10 (x1 : Int) : Int :=
  IntKind.wrap IntKind.u8 (Int.fdiv x1 (65536 : Int))
def r_refBytes_11 (x1 : Int) : Int :=
  IntKind.wrap IntKind.u8 (Int.fdiv x1 (16777216 : Int))
def r_refBytes_12 (x1 : Int) : Int :=
  IntKind.wrap IntKind.u8 (Int.fdiv x1 (4294967296 : Int))
def r_refBytes_13 (x1 : Int) : Int :=
  IntKind.wrap IntKind.u8 (Int.fdiv x1 (1099511627776 : Int))
def r_refBytes_14 (x1 : Int) : Int :=
  IntKind.wrap IntKind.u8 (Int.fdiv x1 (281474976710656 : Int))
def r_refBytes_15 (x1 : Int) : Int :=
  IntKind.wrap IntKind.u8 (Int.fdiv x1 (72057594037927936 : Int))
def r_refBytes_16 (x2 : Int) : Int :=
  IntKind.wrap IntKind.u8 (Int.fdiv x2 (1 : Int))
def r_refBytes_17 (x2 : Int) : Int :=
  IntKind.wrap IntKind.u8 (Int.fdiv x2 (256 : Int))
def r_refBytes_18 (x2 : Int) : Int :=
  IntKind.wrap IntKind.u8 (Int.fdiv x2 (65536 : Int))
def r_refBytes_19 (x2 : Int) : Int :=
  IntKind.wrap IntKind.u8 (Int.fdiv x2 (16777216 : Int))
def r_refBytes_20 (x2 : Int) : Int :=
  IntKind.wrap IntKind.u8 (Int.fdiv x2 (4294967296 : Int))
def r_refBytes_21 (x2 : Int) : Int :=
  IntKind.wrap IntKind.u8 (Int.fdiv x2 (1099511627776 : Int))
def r_refBytes_22 (x2 : Int) : Int :=
  IntKind.wrap IntKind.u8 (Int.fdiv x2 (281474976710656 : Int))
def r_refBytes_23 (x2 : Int) : Int :=
  IntKind.wrap IntKind.u8 (Int.fdiv x2 (72057594037927936 : Int))
def r_refBytes_24 (x3 : Int) : Int :=
  IntKind.wrap IntKind.u8 (Int.fdiv x3 (1 : Int))
def r_refBytes_25 (x3 : Int) : Int :=
  IntKind.wrap IntKind.u8 (Int.fdiv x3 (256 : Int))
def r_refBytes_26 (x3 : Int) : Int :=
  IntKind.wrap IntKind.u8 (Int.fdiv x3 (65536 : Int))
def r_refBytes_27 (x3 : Int) : Int :=
  IntKind.wrap IntKind.u8 (Int.fdiv x3 (16777216 : Int))
def r_refBytes_28 (x3 : Int) : Int :=
  IntKind.wrap IntKind.u8 (Int.fdiv x3 (4294967296 : Int))
def r_refBytes_29 (x3 : Int) : Int :=
  IntKind.wrap IntKind.u8 (Int.fdiv x3 (1099511627776 : Int))
def r_refBytes_30 (x3 : Int) : Int :=
  IntKind.wrap IntKind.u8 (Int.fdiv x3 (281474976710656 : Int))
def r_refBytes_31 (x3 : Int) : Int :=
  IntKind.wrap IntKind.u8 (Int.fdiv x3 (72057594037927936 : Int))
def r_refBytes_32 (x4 : Int) : Int :=
  IntKind.wrap IntKind.u8 (Int.fdiv x4 (1 : Int))
def r_refBytes_33 (x4 : Int) : Int :=
  IntKind.wrap IntKind.u8 (Int.fdiv x4 (256 : Int))
def r_refBytes_34 (x4 : Int) : Int :=
  IntKind.wrap IntKind.u8 (Int.fdiv x4 (65536 : Int))
def r_refBytes_35 (x4 : Int) : Int :=
  IntKind.wrap IntKind.u8 (Int.fdiv x4 (16777216 : Int))
def r_refBytes_36 (x4 : Int) : Int :=
  IntKind.wrap IntKind.u8 (Int.fdiv x4 (4294967296 : Int))
def r_refBytes_37 (x4 : Int) : Int :=
  IntKind.wrap IntKind.u8 (Int.fdiv x4 (1099511627776 : Int))
def r_refBytes_38 (x4 : Int) : Int :=
  IntKind.wrap IntKind.u8 (Int.fdiv x4 (281474976710656 : Int))
def r_refBytes_39 (x4 : Int) : Int :=
  IntKind.wrap IntKind.u8 (Int.fdiv x4 (72057594037927936 : Int))
def r_refBytes_40 (x5 : Int) : Int :=
  IntKind.wrap IntKind.u8 (Int.fdiv x5 (1 : Int))
def r_refBytes_41 (x5 : Int) : Int :=
  IntKind.wrap IntKind.u8 (Int.fdiv x5 (256 : Int))
def r_refBytes_42 (x5 : Int) : Int :=
  IntKind.wrap IntKind.u8 (Int.fdiv x5 (65536 : Int))
def r_refBytes_43 (x5 : Int) : Int :=
  IntKind.wrap IntKind.u8 (Int.fdiv x5 (16777216 : Int))
def r_refBytes_44 (x5 : Int) : Int :=
  IntKind.wrap IntKind.u8 (Int.fdiv x5 (4294967296 : Int))
def r_refBytes_45 (x5 : Int) : Int :=
  IntKind.wrap IntKind.u8 (Int.fdiv x5 (1099511627776 : Int))
def r_refBytes_46 (x5 : Int) : Int :=
  IntKind.wrap IntKind.u8 (Int.fdiv x5 (281474976710656 : Int))
def r_refBytes_47 (x5 : Int) : Int :=
  IntKind.wrap IntKind.u8 (Int.fdiv x5 (72057594037927936 : Int))
def r_refBytes_48 (x6 : Int) : Int :=
  IntKind.wrap IntKind.u8 (Int.fdiv x6 (1 : Int))
def r_refBytes_49 (x6 : Int) : Int :=
  IntKind.wrap IntKind.u8 (Int.fdiv x6 (256 : Int))
def r_refBytes_50 (x6 : Int) : Int :=
  IntKind.wrap IntKind.u8 (Int.fdiv x6 (65536 : Int))
def r_refBytes_51 (x6 : Int) : Int :=
  IntKind.wrap IntKind.u8 (Int.fdiv x6 (16777216 : Int))
def r_refBytes_52 (x6 : Int) : Int :=
  IntKind.wrap IntKind.u8 (Int.fdiv x6 (4294967296 : Int))
def r_refBytes_53 (x6 : Int) : Int :=
  IntKind.wrap IntKind.u8 (Int.fdiv x6 (1099511627776 : Int))
def r_refBytes_54 (x6 : Int) : Int :=
  IntKind.wrap IntKind.u8 (Int.fdiv x6 (281474976710656 : Int))
def r_refBytes_55 (x6 : Int) : Int :=
  IntKind.wrap IntKind.u8 (Int.fdiv x6 (72057594037927936 : Int))
def r_refBytes_56 (x7 : Int) : Int :=
  IntKind.wrap IntKind.u8 (Int.fdiv x7 (1 : Int))
def r_refBytes_57 (x7 : Int) : Int :=
  IntKind.wrap IntKind.u8 (Int.fdiv x7 (256 : Int))
def r_refBytes_58 (x7 : Int) : Int :=
  IntKind.wrap IntKind.u8 (Int.fdiv x7 (65536 : Int))
def r_refBytes_59 (x7 : Int) : Int :=
  IntKind.wrap IntKind.u8 (Int.fdiv x7 (16777216 : Int))
def r_refBytes_60 (x7 : Int) : Int :=
  IntKind.wrap IntKind.u8 (Int.fdiv x7 (4294967296 : Int))
def r_refBytes_61 (x7 : Int) : Int :=
  IntKind.wrap IntKind.u8 (Int.fdiv x7 (1099511627776 : Int))
def r_refBytes_62 (x7 : Int) : Int :=
  IntKind.wrap IntKind.u8 (Int.fdiv x7 (281474976710656 : Int))
def r_refBytes_63 (x7 : Int) : Int :=
  IntKind.wrap IntKind.u8 (Int.fdiv x7 (72057594037927936 : Int))
def F_refBytes : List At → Tr (List At) := fun l => .ok [.i (r_refBytes_0 (aI l 0)), .i (r_refBytes_1 (aI l 0)), .i (r_refBytes_2 (aI l 0)), .i (r_refBytes_3 (aI l 0)), .i (r_refBytes_4 (aI l 0)), .i (r_refBytes_5 (aI l 0)), .i (r_refBytes_6 (aI l 0)), .i (r_refBytes_7 (aI l 0)), .i (r_refBytes_8 (aI l 1)), .i (r_refBytes_9 (aI l 1)), .i (r_refBytes_10 (aI l 1)), .i (r_refBytes_11 (aI l 1)), .i (r_refBytes_12 (aI l 1)), .i (r_refBytes_13 (aI l 1)), .i (r_refBytes_14 (aI l 1)), .i (r_refBytes_15 (aI l 1)), .i (r_refBytes_16 (aI l 2)), .i (r_refBytes_17 (aI l 2)), .i (r_refBytes_18 (aI l 2)), .i (r_refBytes_19 (aI l 2)), .i (r_refBytes_20 (aI l 2)), .i (r_refBytes_21 (aI l 2)), .i (r_refBytes_22 (aI l 2)), .i (r_refBytes_23 (aI l 2)), .i (r_refBytes_24 (aI l 3)), .i (r_refBytes_25 (aI l 3)), .i (r_refBytes_26 (aI l 3)), .i (r_refBytes_27 (aI l 3)), .i (r_refBytes_28 (aI l 3)), .i (r_refBytes_29 (aI l 3)), .i (r_refBytes_30 (aI l 3)), .i (r_refBytes_31 (aI l 3)), .i (r_refBytes_32 (aI l 4)), .i (r_refBytes_33 (aI l 4)), .i (r_refBytes_34 (aI l 4)), .i (r_refBytes_35 (aI l 4)), .i (r_refBytes_36 (aI l 4)), .i (r_refBytes_37 (aI l 4)), .i (r_refBytes_38 (aI l 4)), .i (r_refBytes_39 (aI l 4)), .i (r_refBytes_40 (aI l 5)), .i (r_refBytes_41 (aI l 5)), .i (r_refBytes_42 (aI l 5)), .i (r_refBytes_43 (aI l 5)), .i (r_refBytes_44 (aI l 5)), .i (r_refBytes_45 (aI l 5)), .i (r_refBytes_46 (aI l 5)), .i (r_refBytes_47 (aI l 5)), .i (r_refBytes_48 (aI l 6)), .i (r_refBytes_49 (aI l 6)), .i (r_refBytes_50 (aI l 6)), .i (r_refBytes_51 (aI l 6)), .i (r_refBytes_52 (aI l 6)), .i (r_refBytes_53 (aI l 6)), .i (r_refBytes_54 (aI l 6)), .i (r_refBytes_55 (aI l 6)), .i (r_refBytes_56 (aI l 7)), .i (r_refBytes_57 (aI l 7)), .i (r_refBytes_58 (aI l 7)), .i (r_refBytes_59 (aI l 7)), .i (r_refBytes_60 (aI l 7)), .i (r_refBytes_61 (aI l 7)), .i (r_refBytes_62 (aI l 7)), .i (r_refBytes_63 (aI l 7))]
theorem s_refBytes : SpecF Try.prog 48 (.pure (locP ish_refBytes osh_refBytes F_refBytes)) :=
  spec_locP (sy := y_refBytes) (fuel := 100) (Lp := noLoops) o_wordBytes mixed ⟨Try.func48, by kernel_rfl, by kernel_rfl⟩ ish_refBytes osh_refBytes rfl (noLoops_ok _) (hT_merged [.i, .i, .i, .i, .i, .i, .i, .i, .i, .i, .i, .i, .i, .i, .i, .i, .i, .i, .i, .i, .i, .i, .i, .i, .i, .i, .i, .i, .i, .i, .i, .i, .i, .i, .i, .i, .i, .i, .i, .i, .i, .i, .i, .i, .i, .i, .i, .i, .i, .i, .i, .i, .i, .i, .i, .i, .i, .i, .i, .i, .i, .i, .i, .i] e_refBytes (fun l => by kernel_rfl) (fun l => by kernel_rfl))
def Γ_refBytes : Specs := upd Γ_wordBytes 48 (.pure (locP ish_refBytes osh_refBytes F_refBytes))
theorem o_refBytes : SpecOK Try.prog Γ_refBytes := SpecOK.upd o_wordBytes s_refBytes

end Go.Proofs.Ytgmhggipaopoiaa.G

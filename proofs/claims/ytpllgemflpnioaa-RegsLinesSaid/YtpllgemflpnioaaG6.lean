/-
  What functions of the seat compute, printed by a program from the explorer.
-/
import Derived.Test.YtpllgemflpnioaaB6O
import Derived.KernelRfl
namespace Go.Proofs.Ytpllgemflpnioaa.G
open Go Go.AM Go.Proofs
theorem f_gDiffer_3 : LoopF Try.prog 0 (loopAt Try.f12 3) (loopFn 0 lsh_gDiffer_3 xs_gDiffer_3 OL_gDiffer_3) :=
  loop_loc (sy := y_gDiffer_3) (fuel := 100) (Lp := noLoops) o_shown mixed (loopsOK_at (noLoops_ok _) 3) rfl eB_gDiffer_3 rd_gDiffer_3
def Lp_gDiffer_3 : Loops := Loops.set noLoops 3 (loopFn 0 lsh_gDiffer_3 xs_gDiffer_3 OL_gDiffer_3)
theorem lk_gDiffer_3 : LoopsFn Try.prog 0 Lp_gDiffer_3 Try.f12 := loopsFn_set (noLoops_ok _) (by kernel_rfl) f_gDiffer_3

theorem f_rDiffer_3 : LoopF Try.prog 0 (loopAt Try.f13 3) (loopFn 0 lsh_rDiffer_3 xs_rDiffer_3 OL_rDiffer_3) :=
  loop_loc (sy := y_rDiffer_3) (fuel := 100) (Lp := noLoops) o_shown mixed (loopsOK_at (noLoops_ok _) 3) rfl eB_rDiffer_3 rd_rDiffer_3
def Lp_rDiffer_3 : Loops := Loops.set noLoops 3 (loopFn 0 lsh_rDiffer_3 xs_rDiffer_3 OL_rDiffer_3)
theorem lk_rDiffer_3 : LoopsFn Try.prog 0 Lp_rDiffer_3 Try.f13 := loopsFn_set (noLoops_ok _) (by kernel_rfl) f_rDiffer_3

/-! ### gDiffer -/

def ish_gDiffer : FSh := ⟨[.v true [.k (.n .u64), .k (.n .u64), .k (.n .u64), .k (.n .u64), .k (.n .u64), .k (.n .u64), .k (.n .u64), .k (.n .u64)], .v true [.k (.n .u64), .k (.n .u64), .k (.n .u64), .k (.n .u64), .k (.n .u64), .k (.n .u64), .k (.n .u64), .k (.n .u64)]], []⟩
def osh_gDiffer : FSh := ⟨[.v false [.sw 0 1]], [.rows [.n .i64] true]⟩
def T_gDiffer (x0 : Int) (x1 : Int) (x2 : Int) (x3 : Int) (x4 : Int) (x5 : Int) (x6 : Int) (x7 : Int) (x8 : Int) (x9 : Int) (x10 : Int) (x11 : Int) (x12 : Int) (x13 : Int) (x14 : Int) (x15 : Int) : Tr (List At) :=
 .br 0 (decide ((0 : Int) ≤ (0 : Int) ∧ (0 : Int) ≤ (8 : Int) ∧ (0 : Nat) ≤ (0 : Nat)))
 (.ok [(.r (difN [x0, x1, x2, x3, x4, x5, x6, x7] [x8, x9, x10, x11, x12, x13, x14, x15] (8 : Nat) (0 : Int) (0 : Nat)) (difG [x0, x1, x2, x3, x4, x5, x6, x7] [x8, x9, x10, x11, x12, x13, x14, x15] (8 : Nat) (0 : Int) (0 : Nat) fun (x x_1 : Nat) => (0 : Int)))])
 (.no)
def y_gDiffer : Nat → Option Nat := (syOf3 [] [] [])
def TL_gDiffer (l : List At) : Tr (List At) := T_gDiffer (aI l 0) (aI l 1) (aI l 2) (aI l 3) (aI l 4) (aI l 5) (aI l 6) (aI l 7) (aI l 8) (aI l 9) (aI l 10) (aI l 11) (aI l 12) (aI l 13) (aI l 14) (aI l 15)
theorem e_gDiffer (l : List At) : (call Try.prog Γ_shown y_gDiffer Lp_gDiffer_3 100 Try.f12 (mkV ish_gDiffer l) (mkH ish_gDiffer l)).bind (leafO 0 osh_gDiffer) = TL_gDiffer l := by kernel_rfl
def rn_gDiffer_0 (x0 : Int) (x1 : Int) (x2 : Int) (x3 : Int) (x4 : Int) (x5 : Int) (x6 : Int) (x7 : Int) (x8 : Int) (x9 : Int) (x10 : Int) (x11 : Int) (x12 : Int) (x13 : Int) (x14 : Int) (x15 : Int) : Nat :=
  bif decide ((0 : Int) ≤ (0 : Int) ∧ (0 : Int) ≤ (8 : Int) ∧ (0 : Nat) ≤ (0 : Nat)) then (difN [x0, x1, x2, x3, x4, x5, x6, x7] [x8, x9, x10, x11, x12, x13, x14, x15] (8 : Nat) (0 : Int) (0 : Nat))
  else 0
def rg_gDiffer_0 (x0 : Int) (x1 : Int) (x2 : Int) (x3 : Int) (x4 : Int) (x5 : Int) (x6 : Int) (x7 : Int) (x8 : Int) (x9 : Int) (x10 : Int) (x11 : Int) (x12 : Int) (x13 : Int) (x14 : Int) (x15 : Int) (a c : Nat) : Int :=
  bif decide ((0 : Int) ≤ (0 : Int) ∧ (0 : Int) ≤ (8 : Int) ∧ (0 : Nat) ≤ (0 : Nat)) then (((difG [x0, x1, x2, x3, x4, x5, x6, x7] [x8, x9, x10, x11, x12, x13, x14, x15] (8 : Nat) (0 : Int) (0 : Nat) fun (x x_1 : Nat) => (0 : Int)) : Nat → Nat → Int) a c)
  else 0
def ok_gDiffer (x0 : Int) (x1 : Int) (x2 : Int) (x3 : Int) (x4 : Int) (x5 : Int) (x6 : Int) (x7 : Int) (x8 : Int) (x9 : Int) (x10 : Int) (x11 : Int) (x12 : Int) (x13 : Int) (x14 : Int) (x15 : Int) : Bool :=
  bif decide ((0 : Int) ≤ (0 : Int) ∧ (0 : Int) ≤ (8 : Int) ∧ (0 : Nat) ≤ (0 : Nat)) then (true)
  else false
def F_gDiffer : List At → Tr (List At) := fun l => .br 0 (ok_gDiffer (aI l 0) (aI l 1) (aI l 2) (aI l 3) (aI l 4) (aI l 5) (aI l 6) (aI l 7) (aI l 8) (aI l 9) (aI l 10) (aI l 11) (aI l 12) (aI l 13) (aI l 14) (aI l 15)) (.ok [.r (rn_gDiffer_0 (aI l 0) (aI l 1) (aI l 2) (aI l 3) (aI l 4) (aI l 5) (aI l 6) (aI l 7) (aI l 8) (aI l 9) (aI l 10) (aI l 11) (aI l 12) (aI l 13) (aI l 14) (aI l 15)) (fun a c => rg_gDiffer_0 (aI l 0) (aI l 1) (aI l 2) (aI l 3) (aI l 4) (aI l 5) (aI l 6) (aI l 7) (aI l 8) (aI l 9) (aI l 10) (aI l 11) (aI l 12) (aI l 13) (aI l 14) (aI l 15) a c)]) .no
theorem s_gDiffer : SpecF Try.prog 12 (.eff (locF ish_gDiffer osh_gDiffer F_gDiffer)) :=
  spec_loc (sy := y_gDiffer) (fuel := 100) (Lp := Lp_gDiffer_3) o_shown mixed ⟨Try.func12, by kernel_rfl, by kernel_rfl⟩ ish_gDiffer osh_gDiffer lk_gDiffer_3 (hT_merged [.r] e_gDiffer (fun l => by kernel_rfl) (fun l => by kernel_rfl))
def Γ_gDiffer : Specs := upd Γ_shown 12 (.eff (locF ish_gDiffer osh_gDiffer F_gDiffer))
theorem o_gDiffer : SpecOK Try.prog Γ_gDiffer := SpecOK.upd o_shown s_gDiffer

/-! ### rDiffer -/

def ish_rDiffer : FSh := ⟨[.v true [.k (.n .u64), .k (.n .u64), .k (.n .u64), .k (.n .u64), .k (.n .u64), .k (.n .u64), .k (.n .u64), .k (.n .u64)], .v true [.k (.n .u64), .k (.n .u64), .k (.n .u64), .k (.n .u64), .k (.n .u64), .k (.n .u64), .k (.n .u64), .k (.n .u64)]], []⟩
def osh_rDiffer : FSh := ⟨[.v false [.sw 0 1]], [.rows [.n .i64] true]⟩
def T_rDiffer (x0 : Int) (x1 : Int) (x2 : Int) (x3 : Int) (x4 : Int) (x5 : Int) (x6 : Int) (x7 : Int) (x8 : Int) (x9 : Int) (x10 : Int) (x11 : Int) (x12 : Int) (x13 : Int) (x14 : Int) (x15 : Int) : Tr (List At) :=
 .br 0 (decide ((0 : Int) ≤ (0 : Int) ∧ (0 : Int) ≤ (8 : Int) ∧ (0 : Nat) ≤ (0 : Nat)))
 (.ok [(.r (difN [x0, x1, x2, x3, x4, x5, x6, x7] [x8, x9, x10, x11, x12, x13, x14, x15] (8 : Nat) (0 : Int) (0 : Nat)) (difG [x0, x1, x2, x3, x4, x5, x6, x7] [x8, x9, x10, x11, x12, x13, x14, x15] (8 : Nat) (0 : Int) (0 : Nat) fun (x x_1 : Nat) => (0 : Int)))])
 (.no)
def y_rDiffer : Nat → Option Nat := (syOf3 [] [] [])
def TL_rDiffer (l : List At) : Tr (List At) := T_rDiffer (aI l 0) (aI l 1) (aI l 2) (aI l 3) (aI l 4) (aI l 5) (aI l 6) (aI l 7) (aI l 8) (aI l 9) (aI l 10) (aI l 11) (aI l 12) (aI l 13) (aI l 14) (aI l 15)
theorem e_rDiffer (l : List At) : (call Try.prog Γ_gDiffer y_rDiffer Lp_rDiffer_3 100 Try.f13 (mkV ish_rDiffer l) (mkH ish_rDiffer l)).bind (leafO 0 osh_rDiffer) = TL_rDiffer l := by kernel_rfl
def rn_rDiffer_0 (x0 : Int) (x1 : Int) (x2 : Int) (x3 : Int) (x4 : Int) (x5 : Int) (x6 : Int) (x7 : Int) (x8 : Int) (x9 : Int) (x10 : Int) (x11 : Int) (x12 : Int) (x13 : Int) (x14 : Int) (x15 : Int) : Nat :=
  bif decide ((0 : Int) ≤ (0 : Int) ∧ (0 : Int) ≤ (8 : Int) ∧ (0 : Nat) ≤ (0 : Nat)) then (difN [x0, x1, x2, x3, x4, x5, x6, x7] [x8, x9, x10, x11, x12, x13, x14, x15] (8 : Nat) (0 : Int) (0 : Nat))
  else 0
def rg_rDiffer_0 (x0 : Int) (x1 : Int) (x2 : Int) (x3 : Int) (x4 : Int) (x5 : Int) (x6 : Int) (x7 : Int) (x8 : Int) (x9 : Int) (x10 : Int) (x11 : Int) (x12 : Int) (x13 : Int) (x14 : Int) (x15 : Int) (a c : Nat) : Int :=
  bif decide ((0 : Int) ≤ (0 : Int) ∧ (0 : Int) ≤ (8 : Int) ∧ (0 : Nat) ≤ (0 : Nat)) then (((difG [x0, x1, x2, x3, x4, x5, x6, x7] [x8, x9, x10, x11, x12, x13, x14, x15] (8 : Nat) (0 : Int) (0 : Nat) fun (x x_1 : Nat) => (0 : Int)) : Nat → Nat → Int) a c)
  else 0
def ok_rDiffer (x0 : Int) (x1 : Int) (x2 : Int) (x3 : Int) (x4 : Int) (x5 : Int) (x6 : Int) (x7 : Int) (x8 : Int) (x9 : Int) (x10 : Int) (x11 : Int) (x12 : Int) (x13 : Int) (x14 : Int) (x15 : Int) : Bool :=
  bif decide ((0 : Int) ≤ (0 : Int) ∧ (0 : Int) ≤ (8 : Int) ∧ (0 : Nat) ≤ (0 : Nat)) then (true)
  else false
def F_rDiffer : List At → Tr (List At) := fun l => .br 0 (ok_rDiffer (aI l 0) (aI l 1) (aI l 2) (aI l 3) (aI l 4) (aI l 5) (aI l 6) (aI l 7) (aI l 8) (aI l 9) (aI l 10) (aI l 11) (aI l 12) (aI l 13) (aI l 14) (aI l 15)) (.ok [.r (rn_rDiffer_0 (aI l 0) (aI l 1) (aI l 2) (aI l 3) (aI l 4) (aI l 5) (aI l 6) (aI l 7) (aI l 8) (aI l 9) (aI l 10) (aI l 11) (aI l 12) (aI l 13) (aI l 14) (aI l 15)) (fun a c => rg_rDiffer_0 (aI l 0) (aI l 1) (aI l 2) (aI l 3) (aI l 4) (aI l 5) (aI l 6) (aI l 7) (aI l 8) (aI l 9) (aI l 10) (aI l 11) (aI l 12) (aI l 13) (aI l 14) (aI l 15) a c)]) .no
theorem s_rDiffer : SpecF Try.prog 13 (.eff (locF ish_rDiffer osh_rDiffer F_rDiffer)) :=
  spec_loc (sy := y_rDiffer) (fuel := 100) (Lp := Lp_rDiffer_3) o_gDiffer mixed ⟨Try.func13, by kernel_rfl, by kernel_rfl⟩ ish_rDiffer osh_rDiffer lk_rDiffer_3 (hT_merged [.r] e_rDiffer (fun l => by kernel_rfl) (fun l => by kernel_rfl))
def Γ_rDiffer : Specs := upd Γ_gDiffer 13 (.eff (locF ish_rDiffer osh_rDiffer F_rDiffer))
theorem o_rDiffer : SpecOK Try.prog Γ_rDiffer := SpecOK.upd o_gDiffer s_rDiffer

end Go.Proofs.Ytpllgemflpnioaa.G

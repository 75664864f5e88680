/-
  What functions of the seat compute, printed by a program from the explorer.
-/
import Derived.Test.YtpgfnccagiiknaaCrc2
import Derived.KernelRfl
namespace Go.Proofs.Ytpgfnccagiiknaa.G
open Go Go.AM Go.Proofs
/-! ### refMore -/

def ish_refMore : FSh := ⟨[.v false [.k (.n .u32)], .v false [.vw 0 1]], [.rows [.n .u8] false]⟩
def osh_refMore : FSh := ⟨[.v false [.k (.n .u32)]], [.no]⟩
def T_refMore (x0 : Int) (n1 : Nat) (g1 : Nat → Nat → Int) : Tr (List At) :=
 .br 0 (ok_refReg (bits BinOp.xor IntKind.u32 (4294967295 : Int) x0) n1 fun (j cc : Nat) => g1 ((0 : Nat) + j) cc)
 (.ok [(.i (bits BinOp.xor IntKind.u32 (4294967295 : Int)   (r_refReg_0 (bits BinOp.xor IntKind.u32 (4294967295 : Int) x0) n1 fun (j cc : Nat) => g1 ((0 : Nat) + j) cc)))])
 (.no)
def y_refMore : Nat → Option Nat := syOf3 [] [] []
def TL_refMore (l : List At) : Tr (List At) := T_refMore (aI l 0) (aRn l 1) (aRg l 1)
theorem e_refMore (l : List At) : (call Try.prog Γ_refGood y_refMore noLoops 100 Try.f14 (mkV ish_refMore l) (mkH ish_refMore l)).bind (leafO 1 osh_refMore) = TL_refMore l := by kernel_rfl
def r_refMore_0 (x0 : Int) (n1 : Nat) (g1 : Nat → Nat → Int) : Int :=
  bif ok_refReg (bits BinOp.xor IntKind.u32 (4294967295 : Int) x0) n1 fun (j cc : Nat) => g1 ((0 : Nat) + j) cc then (bits BinOp.xor IntKind.u32 (4294967295 : Int)   (r_refReg_0 (bits BinOp.xor IntKind.u32 (4294967295 : Int) x0) n1 fun (j cc : Nat) => g1 ((0 : Nat) + j) cc))
  else 0
def ok_refMore (x0 : Int) (n1 : Nat) (g1 : Nat → Nat → Int) : Bool :=
  bif ok_refReg (bits BinOp.xor IntKind.u32 (4294967295 : Int) x0) n1 fun (j cc : Nat) => g1 ((0 : Nat) + j) cc then (true)
  else false
def F_refMore : List At → Tr (List At) := fun l => .br 0 (ok_refMore (aI l 0) (aRn l 1) (aRg l 1)) (.ok [.i (r_refMore_0 (aI l 0) (aRn l 1) (aRg l 1))]) .no
theorem s_refMore : SpecF Try.prog 14 (.read (locR ish_refMore osh_refMore F_refMore)) :=
  spec_read (sy := y_refMore) (fuel := 100) (Lp := noLoops) o_refGood mixed ⟨Try.func14, by kernel_rfl, by kernel_rfl⟩ ish_refMore osh_refMore (by kernel_rfl) (noLoops_ok _) (hT_merged [.i] e_refMore (fun l => by kernel_rfl) (fun l => by kernel_rfl))
def Γ_refMore : Specs := upd Γ_refGood 14 (.read (locR ish_refMore osh_refMore F_refMore))
theorem o_refMore : SpecOK Try.prog Γ_refMore := SpecOK.upd o_refGood s_refMore

/-! ### few -/

def ish_few : FSh := ⟨[.v false [.sq 0 1]], [.rows [.n .u8] false]⟩
def osh_few : FSh := ⟨[.v false [.sq 0 1]], [.no]⟩
def T_few (x0 : Nat) (x1 : Nat) (n2 : Nat) (g2 : Nat → Nat → Int) : Tr (List At) :=
 .br 5 (decide ((↑x1 : Int) > (300 : Int)))
 (.br 7 (true && decide ((300 : Int) ≤ (↑x1 : Int)))
 (.ok [(.n (x0 + (0 : Nat))), (.n ((300 : Nat)))])
 (.no))
 (.ok [(.n (x0)), (.n (x1))])
def y_few : Nat → Option Nat := syOf3 [5, 7] [] []
def TL_few (l : List At) : Tr (List At) := T_few (aN l 0) (aN l 1) (aRn l 2) (aRg l 2)
theorem e_few (l : List At) : (call Try.prog Γ_refMore y_few noLoops 100 Try.f10 (mkV ish_few l) (mkH ish_few l)).bind (leafO 1 osh_few) = TL_few l := by kernel_rfl
def r_few_0 (x0 : Nat) (x1 : Nat) (n2 : Nat) (g2 : Nat → Nat → Int) : Nat :=
  bif decide ((↑x1 : Int) > (300 : Int)) then (bif true && decide ((300 : Int) ≤ (↑x1 : Int)) then (x0 + (0 : Nat))
  else 0)
  else x0
def r_few_1 (x0 : Nat) (x1 : Nat) (n2 : Nat) (g2 : Nat → Nat → Int) : Nat :=
  bif decide ((↑x1 : Int) > (300 : Int)) then (bif true && decide ((300 : Int) ≤ (↑x1 : Int)) then ((300 : Nat))
  else 0)
  else x1
def ok_few (x0 : Nat) (x1 : Nat) (n2 : Nat) (g2 : Nat → Nat → Int) : Bool :=
  bif decide ((↑x1 : Int) > (300 : Int)) then (bif true && decide ((300 : Int) ≤ (↑x1 : Int)) then (true)
  else false)
  else true
def F_few : List At → Tr (List At) := fun l => .br 0 (ok_few (aN l 0) (aN l 1) (aRn l 2) (aRg l 2)) (.ok [.n (r_few_0 (aN l 0) (aN l 1) (aRn l 2) (aRg l 2)), .n (r_few_1 (aN l 0) (aN l 1) (aRn l 2) (aRg l 2))]) .no
theorem s_few : SpecF Try.prog 10 (.eff (locF ish_few osh_few F_few)) :=
  spec_loc (sy := y_few) (fuel := 100) (Lp := noLoops) o_refMore mixed ⟨Try.func10, by kernel_rfl, by kernel_rfl⟩ ish_few osh_few (noLoops_ok _) (hT_merged [.n, .n] e_few (fun l => by kernel_rfl) (fun l => by kernel_rfl))
def Γ_few : Specs := upd Γ_refMore 10 (.eff (locF ish_few osh_few F_few))
theorem o_few : SpecOK Try.prog Γ_few := SpecOK.upd o_refMore s_few

/-! ### shown -/

def ish_shown : FSh := ⟨[], []⟩
def osh_shown : FSh := ⟨[.v false [.k .b]], []⟩
def T_shown  : Tr (List At) :=
 .br 0 (true)
 (.br 0 (true)
 (.br 0 (true)
 (.br 0 (true)
 (.br 0 (true)
 (.br 0 (true)
 (.br 0 (true)
 (.ok [(.b (true))])
 (.no))
 (.no))
 (.no))
 (.no))
 (.no))
 (.no))
 (.no)
def y_shown : Nat → Option Nat := syOf3 [] [] []
def TL_shown (l : List At) : Tr (List At) := T_shown 
theorem e_shown (l : List At) : (call Try.prog Γ_few y_shown noLoops 100 Try.f9 (mkV ish_shown l) (mkH ish_shown l)).bind (leafO 0 osh_shown) = TL_shown l := by kernel_rfl
def r_shown_0  : Bool :=
  bif true then (bif true then (bif true then (bif true then (bif true then (bif true then (bif true then (true)
  else false)
  else false)
  else false)
  else false)
  else false)
  else false)
  else false
def ok_shown  : Bool :=
  bif true then (bif true then (bif true then (bif true then (bif true then (bif true then (bif true then (true)
  else false)
  else false)
  else false)
  else false)
  else false)
  else false)
  else false
def F_shown : List At → Tr (List At) := fun l => .br 0 (ok_shown ) (.ok [.b (r_shown_0)]) .no
theorem s_shown : SpecF Try.prog 9 (.pure (locP ish_shown osh_shown F_shown)) :=
  spec_locP (sy := y_shown) (fuel := 100) (Lp := noLoops) o_few mixed ⟨Try.func9, by kernel_rfl, by kernel_rfl⟩ ish_shown osh_shown rfl (noLoops_ok _) (hT_merged [.b] e_shown (fun l => by kernel_rfl) (fun l => by kernel_rfl))
def Γ_shown : Specs := upd Γ_few 9 (.pure (locP ish_shown osh_shown F_shown))
theorem o_shown : SpecOK Try.prog Γ_shown := SpecOK.upd o_few s_shown

end Go.Proofs.Ytpgfnccagiiknaa.G
